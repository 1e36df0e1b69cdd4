/-
  The runs of the lexer.
-/
import Derived.Test.YtbjagceopgofiaaDoorLexA
namespace Go.Proofs.YtbjagceopgofiaaDoor
open Go.RowKit

theorem byte_at (s : ByteArray) (k : Nat) (h : k < s.size) : s.data.toList[k]? = some s[k] := by
  rw [List.getElem?_eq_getElem (by simpa using h)]
  rfl
def RelRun (p : UInt8 → Bool) (s : ByteArray) (i : Nat) (t : Value) : Prop :=
  ∃ k : Nat, k ≤ s.size ∧ t = .int .i64 k ∧ runEnd p s.data.toList k = runEnd p s.data.toList i
set_option maxHeartbeats 1000000 in
theorem while_in (s : ByteArray) (i : Nat) (w : World) (hs : s.size ≤ 65536) (hi : i ≤ s.size) :
    Calls Tryd.prog 48 #[.string s, .int .i64 i, .func (.func 49) #[] #[]] w fun e w' => e = .returned (.int .i64 (runEnd inNm s.data.toList i)) ∧ w = w' := by
  go_enter Tryd.func48, Tryd.ntmps48
  go_wp2_with fail
  go_loop [1] (fun t => RelRun inNm s i t) (fun t => s.size - (intOf t).toNat)
  case atStart => exact ⟨i, hi, rfl, rfl⟩
  case round =>
    obtain ⟨k, hk, rfl, hr⟩ := hrel
    have HR := Lib.hid hr
    clear hr
    by_cases hlt : k < s.size
    · have hb := byte_at s k hlt
      have HB := Lib.hid hb
      clear hb
      cases hp : inNm s[k]
      · go_wp2_with (go_at_call 49; refine (inName_c _ _).mono ?_; rintro e w' ⟨rfl, rfl⟩)
        go_ret
        exact ⟨ret_int (by rw [← HR.out, runEnd_stop HB.out hp]), rfl⟩
      · go_wp2_with (go_at_call 49; refine (inName_c _ _).mono ?_; rintro e w' ⟨rfl, rfl⟩)
        go_round
        case rel => exact ⟨k + 1, by omega, by go_num, by rw [← HR.out, runEnd_step HB.out hp]⟩
        case measure => simp [intOf]; omega
    · go_wp2_with fail
      go_ret
      exact ⟨ret_int (by rw [← HR.out, runEnd_end (by simp; omega)]), rfl⟩
set_option maxHeartbeats 1000000 in
theorem while_dig (s : ByteArray) (i : Nat) (w : World) (hs : s.size ≤ 65536) (hi : i ≤ s.size) :
    Calls Tryd.prog 48 #[.string s, .int .i64 i, .func (.func 50) #[] #[]] w fun e w' => e = .returned (.int .i64 (runEnd isDig s.data.toList i)) ∧ w = w' := by
  go_enter Tryd.func48, Tryd.ntmps48
  go_wp2_with fail
  go_loop [1] (fun t => RelRun isDig s i t) (fun t => s.size - (intOf t).toNat)
  case atStart => exact ⟨i, hi, rfl, rfl⟩
  case round =>
    obtain ⟨k, hk, rfl, hr⟩ := hrel
    have HR := Lib.hid hr
    clear hr
    by_cases hlt : k < s.size
    · have hb := byte_at s k hlt
      have HB := Lib.hid hb
      clear hb
      cases hp : isDig s[k]
      · go_wp2_with (go_at_call 50; refine (isDigit_c _ _).mono ?_; rintro e w' ⟨rfl, rfl⟩)
        go_ret
        exact ⟨ret_int (by rw [← HR.out, runEnd_stop HB.out hp]), rfl⟩
      · go_wp2_with (go_at_call 50; refine (isDigit_c _ _).mono ?_; rintro e w' ⟨rfl, rfl⟩)
        go_round
        case rel => exact ⟨k + 1, by omega, by go_num, by rw [← HR.out, runEnd_step HB.out hp]⟩
        case measure => simp [intOf]; omega
    · go_wp2_with fail
      go_ret
      exact ⟨ret_int (by rw [← HR.out, runEnd_end (by simp; omega)]), rfl⟩
#print axioms while_dig
end Go.Proofs.YtbjagceopgofiaaDoor
