/-
  The reference's lexer: letters, digits, blanks, signs; numbers.
-/
import Derived.Test.YtbjagceopgofiaaDoorLexD
import Derived.Deep.CutBlock
namespace Go.Proofs.YtbjagceopgofiaaDoor
open Go.RowKit

theorem rletter_c (c : UInt8) (w : World) : Calls Tryd.prog 46 #[.int .u8 c.toNat] w fun e w' => e = .returned (.bool (isLet c)) ∧ w = w' := by
  have hc : c.toNat < 256 := c.toNat_lt
  go_enter Tryd.func46, Tryd.ntmps46
  go_wp2_with fail
  all_goals (go_ret; exact ⟨ret_bool (by first | (simp [isLet]; done) | (rw [Bool.eq_iff_iff]; simp [isLet]; omega) | (simp [isLet]; omega)), rfl⟩)
theorem rdigit_c (c : UInt8) (w : World) : Calls Tryd.prog 44 #[.int .u8 c.toNat] w fun e w' => e = .returned (.bool (isDig c)) ∧ w = w' := by
  have hc : c.toNat < 256 := c.toNat_lt
  go_enter Tryd.func44, Tryd.ntmps44
  go_wp2_with fail
  all_goals (go_ret; exact ⟨ret_bool (by first | (simp [isDig]; done) | (rw [Bool.eq_iff_iff]; simp [isDig]; omega) | (simp [isDig]; omega)), rfl⟩)
theorem rblank_c (c : UInt8) (w : World) : Calls Tryd.prog 42 #[.int .u8 c.toNat] w fun e w' => e = .returned (.bool (isBl c)) ∧ w = w' := by
  have hc : c.toNat < 256 := c.toNat_lt
  by_cases h32 : c.toNat = 32
  · have hq32 : (((c.toNat : Nat) : Int) == 32) = true := by simp; omega
    have H : Hid (isBl c = true) := by show _ = _; simp [isBl]; omega
    clear h32
    go_enter Tryd.func42, Tryd.ntmps42
    go_wp2_with fail
    go_ret
    exact ⟨by rw [H.out]; rfl, rfl⟩
  have hq32 : (((c.toNat : Nat) : Int) == 32) = false := by simp; omega
  by_cases h9 : c.toNat = 9
  · have hq9 : (((c.toNat : Nat) : Int) == 9) = true := by simp; omega
    have H : Hid (isBl c = true) := by show _ = _; simp [isBl]; omega
    clear h32 h9
    go_enter Tryd.func42, Tryd.ntmps42
    go_wp2_with fail
    go_ret
    exact ⟨by rw [H.out]; rfl, rfl⟩
  have hq9 : (((c.toNat : Nat) : Int) == 9) = false := by simp; omega
  by_cases h10 : c.toNat = 10
  · have hq10 : (((c.toNat : Nat) : Int) == 10) = true := by simp; omega
    have H : Hid (isBl c = true) := by show _ = _; simp [isBl]; omega
    clear h32 h9 h10
    go_enter Tryd.func42, Tryd.ntmps42
    go_wp2_with fail
    go_ret
    exact ⟨by rw [H.out]; rfl, rfl⟩
  have hq10 : (((c.toNat : Nat) : Int) == 10) = false := by simp; omega
  have H : Hid (isBl c = false) := by show _ = _; simp [isBl]; omega
  clear h32 h9 h10
  go_enter Tryd.func42, Tryd.ntmps42
  go_wp2_with fail
  go_ret
  exact ⟨by rw [H.out]; rfl, rfl⟩
theorem rsign_c (c : UInt8) (w : World) : Calls Tryd.prog 43 #[.int .u8 c.toNat] w fun e w' => e = .returned (.bool (isSg c)) ∧ w = w' := by
  have hc : c.toNat < 256 := c.toNat_lt
  by_cases h40 : c.toNat = 40
  · have hq40 : (((c.toNat : Nat) : Int) == 40) = true := by simp; omega
    have H : Hid (isSg c = true) := by show _ = _; simp [isSg]; omega
    clear h40
    go_enter Tryd.func43, Tryd.ntmps43
    go_wp2_with fail
    go_ret
    exact ⟨by rw [H.out]; rfl, rfl⟩
  have hq40 : (((c.toNat : Nat) : Int) == 40) = false := by simp; omega
  by_cases h41 : c.toNat = 41
  · have hq41 : (((c.toNat : Nat) : Int) == 41) = true := by simp; omega
    have H : Hid (isSg c = true) := by show _ = _; simp [isSg]; omega
    clear h40 h41
    go_enter Tryd.func43, Tryd.ntmps43
    go_wp2_with fail
    go_ret
    exact ⟨by rw [H.out]; rfl, rfl⟩
  have hq41 : (((c.toNat : Nat) : Int) == 41) = false := by simp; omega
  by_cases h91 : c.toNat = 91
  · have hq91 : (((c.toNat : Nat) : Int) == 91) = true := by simp; omega
    have H : Hid (isSg c = true) := by show _ = _; simp [isSg]; omega
    clear h40 h41 h91
    go_enter Tryd.func43, Tryd.ntmps43
    go_wp2_with fail
    go_ret
    exact ⟨by rw [H.out]; rfl, rfl⟩
  have hq91 : (((c.toNat : Nat) : Int) == 91) = false := by simp; omega
  by_cases h93 : c.toNat = 93
  · have hq93 : (((c.toNat : Nat) : Int) == 93) = true := by simp; omega
    have H : Hid (isSg c = true) := by show _ = _; simp [isSg]; omega
    clear h40 h41 h91 h93
    go_enter Tryd.func43, Tryd.ntmps43
    go_wp2_with fail
    go_ret
    exact ⟨by rw [H.out]; rfl, rfl⟩
  have hq93 : (((c.toNat : Nat) : Int) == 93) = false := by simp; omega
  by_cases h44 : c.toNat = 44
  · have hq44 : (((c.toNat : Nat) : Int) == 44) = true := by simp; omega
    have H : Hid (isSg c = true) := by show _ = _; simp [isSg]; omega
    clear h40 h41 h91 h93 h44
    go_enter Tryd.func43, Tryd.ntmps43
    go_wp2_with fail
    go_ret
    exact ⟨by rw [H.out]; rfl, rfl⟩
  have hq44 : (((c.toNat : Nat) : Int) == 44) = false := by simp; omega
  have H : Hid (isSg c = false) := by show _ = _; simp [isSg]; omega
  clear h40 h41 h91 h93 h44
  go_enter Tryd.func43, Tryd.ntmps43
  go_wp2_with fail
  go_ret
  exact ⟨by rw [H.out]; rfl, rfl⟩

def CutRun (w : World) (n : Nat) (t : Value) (wr : World) : Prop := t = .int .i64 n ∧ w = wr
def RelVal (T : ByteArray) (e : Nat) (R : Option Nat) (t i : Value) : Prop :=
  ∃ k v : Nat, k ≤ e ∧ i = .int .i64 k ∧ t = .int .i64 v ∧ v ≤ 9999999 ∧ valM (piece T.data.toList k e) v = R
def rnumPost (w : World) (r : Except Nat (Nat × Nat)) (x : Ending) (w' : World) : Prop :=
  match r with
  | .ok (e, v) => x = .returned (.tuple #[.int .i64 v, .int .i64 e, .int .i64 0]) ∧ w = w'
  | .error er => ∃ n : Int, x = .returned (.tuple #[.int .i64 0, .int .i64 n, .int .i64 er]) ∧ w = w'

set_option maxHeartbeats 4000000 in
set_option maxRecDepth 100000 in
theorem rnumber_c (s : ByteArray) (w : World) (hs : s.size ≤ 65536) (hi : 0 < s.size) :
    Calls Tryd.prog 45 #[.string s] w (rnumPost w (numM s.data.toList 0)) := by
  have h2 := runEnd_le isDig s.data.toList 0 (by omega)
  have hdig := Lib.hid (runEnd_all isDig s.data.toList 0)
  have hnum : Hid (numM s.data.toList 0 = if numBad s.data.toList 0 (runEnd isDig s.data.toList 0) then .error 14 else match valM (piece s.data.toList 0 (runEnd isDig s.data.toList 0)) 0 with | none => .error 8 | some v => .ok (runEnd isDig s.data.toList 0, v)) := rfl
  rw [len_data] at h2
  go_enter Tryd.func45, Tryd.ntmps45
  go_upto_block 0 with fail
  go_cut [5] (fun t wx => CutRun w (runEnd isDig s.data.toList 0) t wx)
  case first =>
    go_wp2_with fail
    go_loop [5] (fun t => RelRun isDig s 0 t) (fun t => s.size - (intOf t).toNat)
    case atStart => exact ⟨0, by omega, rfl, rfl⟩
    case round =>
      obtain ⟨k, hk, rfl, hr⟩ := hrel
      have HR := Lib.hid hr
      clear hr hnum
      by_cases hlt : k < s.size
      · have HB := Lib.hid (byte_at s k hlt)
        cases hp : isDig s[k]
        · go_wp2_with (go_at_call 44; refine (rdigit_c _ _).mono ?_; rintro e w' ⟨rfl, rfl⟩)
          go_meet
          exact ⟨int_eq (by rw [← HR.out, runEnd_stop HB.out hp]), rfl⟩
        · go_wp2_with (go_at_call 44; refine (rdigit_c _ _).mono ?_; rintro e w' ⟨rfl, rfl⟩)
          go_round
          case rel => exact ⟨k + 1, by omega, by go_num, by rw [← HR.out, runEnd_step HB.out hp]⟩
          case measure => simp [intOf]; omega
      · go_wp2_with fail
        go_meet
        exact ⟨int_eq (by rw [← HR.out, runEnd_end (by rw [len_data]; omega)]), rfl⟩
  case rest =>
    obtain ⟨rfl, rfl⟩ := hcut
    generalize runEnd isDig s.data.toList 0 = e at *
    go_upto_region 4 with fail
    go_cut [44] (fun t wx => CutBad w (numBad s.data.toList 0 e) t wx)
    case first =>
      clear hnum
      by_cases hlt : e < s.size
      · have HN := Lib.hid (numBad_lt s 0 e hi hlt)
        by_cases hi1 : 1 < e
        · by_cases h48 : s[0].toNat = 48
          · have hq : (((s[0].toNat : Nat) : Int) == 48) = true := by simp; omega
            have H48 := Lib.hid h48
            clear h48
            go_wp2_with (go_at_call 46; refine (rletter_c _ _).mono ?_; rintro e w' ⟨rfl, rfl⟩)
            go_meet
            exact ⟨congrArg Value.bool (by rw [HN.out]; simp [H48.out, hi1]), rfl⟩
          · have hq : (((s[0].toNat : Nat) : Int) == 48) = false := by simp; omega
            have H48 := Lib.hid h48
            clear h48
            cases hl : isLet s[e]
            · by_cases h95 : s[e].toNat = 95
              · have hq5 : (((s[e].toNat : Nat) : Int) == 95) = true := by simp; omega
                have H95 := Lib.hid h95
                clear h95
                go_wp2_with (go_at_call 46; refine (rletter_c _ _).mono ?_; rintro e w' ⟨rfl, rfl⟩)
                go_meet
                exact ⟨congrArg Value.bool (by rw [HN.out]; simp [H95.out]), rfl⟩
              · have hq5 : (((s[e].toNat : Nat) : Int) == 95) = false := by simp; omega
                have H95 := Lib.hid h95
                clear h95
                go_wp2_with (go_at_call 46; refine (rletter_c _ _).mono ?_; rintro e w' ⟨rfl, rfl⟩)
                go_meet
                exact ⟨congrArg Value.bool (by rw [HN.out, hl, decide_eq_false H95.out, decide_eq_false H48.out]; simp), rfl⟩
            · go_wp2_with (go_at_call 46; refine (rletter_c _ _).mono ?_; rintro e w' ⟨rfl, rfl⟩)
              go_meet
              exact ⟨congrArg Value.bool (by rw [HN.out, hl]; simp), rfl⟩
        · have HI1 : Hid (decide (0 + 1 < e) = false) := by show _ = _; simp; omega
          cases hl : isLet s[e]
          · by_cases h95 : s[e].toNat = 95
            · have hq5 : (((s[e].toNat : Nat) : Int) == 95) = true := by simp; omega
              have H95 := Lib.hid h95
              clear h95
              go_wp2_with (go_at_call 46; refine (rletter_c _ _).mono ?_; rintro e w' ⟨rfl, rfl⟩)
              go_meet
              exact ⟨congrArg Value.bool (by rw [HN.out]; simp [H95.out]), rfl⟩
            · have hq5 : (((s[e].toNat : Nat) : Int) == 95) = false := by simp; omega
              have H95 := Lib.hid h95
              clear h95
              go_wp2_with (go_at_call 46; refine (rletter_c _ _).mono ?_; rintro e w' ⟨rfl, rfl⟩)
              go_meet
              exact ⟨congrArg Value.bool (by rw [HN.out, hl, decide_eq_false H95.out, HI1.out]; simp), rfl⟩
          · go_wp2_with (go_at_call 46; refine (rletter_c _ _).mono ?_; rintro e w' ⟨rfl, rfl⟩)
            go_meet
            exact ⟨congrArg Value.bool (by rw [HN.out, hl]; simp), rfl⟩
      · have HN := Lib.hid (numBad_ge s 0 e hi (by omega))
        by_cases hi1 : 1 < e
        · by_cases h48 : s[0].toNat = 48
          · have hq : (((s[0].toNat : Nat) : Int) == 48) = true := by simp; omega
            have H48 := Lib.hid h48
            clear h48
            go_wp2_with (go_at_call 46; refine (rletter_c _ _).mono ?_; rintro e w' ⟨rfl, rfl⟩)
            go_meet
            exact ⟨congrArg Value.bool (by rw [HN.out]; simp [H48.out, hi1]), rfl⟩
          · have hq : (((s[0].toNat : Nat) : Int) == 48) = false := by simp; omega
            have H48 := Lib.hid h48
            clear h48
            go_wp2_with (go_at_call 46; refine (rletter_c _ _).mono ?_; rintro e w' ⟨rfl, rfl⟩)
            go_meet
            exact ⟨congrArg Value.bool (by rw [HN.out, decide_eq_false H48.out]; simp), rfl⟩
        · have HI1 : Hid (decide (0 + 1 < e) = false) := by show _ = _; simp; omega
          go_wp2_with (go_at_call 46; refine (rletter_c _ _).mono ?_; rintro e w' ⟨rfl, rfl⟩)
          go_meet
          exact ⟨congrArg Value.bool (by rw [HN.out, HI1.out]; simp), rfl⟩
    case rest =>
      obtain ⟨rfl, rfl⟩ := hcut
      cases hbad : numBad s.data.toList 0 e
      · have HN : Hid (numM s.data.toList 0 = match valM (piece s.data.toList 0 e) 0 with | none => .error 8 | some v => .ok (e, v)) := by
          show _ = _
          rw [hnum.out, hbad]; rfl
        clear hnum hbad
        go_wp2_with fail
        go_loop [6, 7] (fun t i => RelVal s e (valM (piece s.data.toList 0 e) 0) t i) (fun _ i => e - (intOf i).toNat)
        case atStart => exact ⟨0, 0, by omega, rfl, rfl, by omega, rfl⟩
        case round =>
          obtain ⟨k, v, hk, rfl, rfl, hv, hR⟩ := hrel
          have HR := Lib.hid hR
          clear hR
          by_cases hlt : k < e
          · have hks : k < s.size := by omega
            have HPC : Hid (piece s.data.toList k e = s[k] :: piece s.data.toList (k + 1) e) := by
              show _ = _
              unfold piece
              rw [List.drop_eq_getElem_cons (by rw [len_data]; exact hks), show e - k = (e - (k + 1)) + 1 by omega, List.take_succ_cons]
              rfl
            have hd : isDig s[k] = true := hdig.out _ (by
              unfold piece
              rw [List.drop_zero, Nat.sub_zero]
              exact List.mem_take_iff_getElem.2 ⟨k, by rw [len_data]; omega, rfl⟩)
            have hd2 : 48 ≤ s[k].toNat ∧ s[k].toNat ≤ 57 := by simpa [isDig] using hd
            obtain ⟨hd3, hd4⟩ := hd2
            clear hd
            by_cases hbig : 9999999 < v * 10 + (s[k].toNat - 48)
            · go_wp2_with fail
              go_ret3
              rw [HPC.out] at HR
              have HV : valM (s[k] :: piece s.data.toList (k + 1) e) v = none := by unfold valM; rw [if_pos hbig]
              rw [HN.out, ← HR.out, HV]
              exact ⟨_, rfl, rfl⟩
            · go_wp2_with fail
              go_round
              case rel =>
                refine ⟨k + 1, v * 10 + (s[k].toNat - 48), by omega, by go_num, by go_num, by omega, ?_⟩
                rw [← HR.out, HPC.out]
                conv => rhs; unfold valM
                rw [if_neg hbig]
              case measure => simp [intOf]; omega
          · have HPE : Hid (piece s.data.toList k e = []) := by
              show _ = _
              unfold piece
              rw [show e - k = 0 by omega]; simp
            go_wp2_with fail
            go_ret3
            rw [HPE.out] at HR
            have HV : valM [] v = some v := rfl
            rw [HN.out, ← HR.out, HV]
            exact ⟨rfl, rfl⟩
      · go_wp2_with fail
        go_ret3
        rw [hnum.out, if_pos hbad]
        exact ⟨_, rfl, rfl⟩
#print axioms rnumber_c
end Go.Proofs.YtbjagceopgofiaaDoor
