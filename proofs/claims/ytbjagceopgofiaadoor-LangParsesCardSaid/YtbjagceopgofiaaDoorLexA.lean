/-
  The small functions of the lexer: letters, digits, runs; the parser's panic.
-/
import Derived.Test.YtbjagceopgofiaaDoorLex
import Derived.Test.YtbjagceopgofiaaDoorProg
import Derived.Test.YtbjagceopgofiaaDoorStable
import Derived.WalkLawsBesides
import Derived.WalkSpells
import Derived.LoopTactic
import Derived.Outline
import Derived.KernelRfl
import Derived.Lib.Hide
namespace Go.Proofs.YtbjagceopgofiaaDoor
open Go.RowKit

theorem isLetter_c (c : UInt8) (w : World) : Calls Tryd.prog 47 #[.int .u8 c.toNat] w fun e w' => e = .returned (.bool (isLet c)) ∧ w = w' := by
  have hc : c.toNat < 256 := c.toNat_lt
  go_enter Tryd.func47, Tryd.ntmps47
  go_wp2_with fail
  all_goals (go_ret; exact ⟨ret_bool (by first | (simp [isLet]; done) | (rw [Bool.eq_iff_iff]; simp [isLet]; omega)), rfl⟩)
theorem isDigit_c (c : UInt8) (w : World) : Calls Tryd.prog 50 #[.int .u8 c.toNat] w fun e w' => e = .returned (.bool (isDig c)) ∧ w = w' := by
  have hc : c.toNat < 256 := c.toNat_lt
  go_enter Tryd.func50, Tryd.ntmps50
  go_wp2_with fail
  all_goals (go_ret; exact ⟨ret_bool (by first | (simp [isDig]; done) | (rw [Bool.eq_iff_iff]; simp [isDig]; omega)), rfl⟩)
theorem inName_c (c : UInt8) (w : World) : Calls Tryd.prog 49 #[.int .u8 c.toNat] w fun e w' => e = .returned (.bool (inNm c)) ∧ w = w' := by
  have hc : c.toNat < 256 := c.toNat_lt
  have HI : Hid (inNm c = (isLet c || isDig c || decide (c.toNat = 95))) := rfl
  cases hl : isLet c <;> cases hd : isDig c <;>
  · go_enter Tryd.func49, Tryd.ntmps49
    go_wp2_with (first
      | (go_at_call 47; refine (isLetter_c _ _).mono ?_; rintro e w' ⟨rfl, rfl⟩)
      | (go_at_call 50; refine (isDigit_c _ _).mono ?_; rintro e w' ⟨rfl, rfl⟩))
    all_goals (go_ret; exact ⟨ret_bool (by rw [HI.out, hl, hd]; first | rfl | (simp; done) | (rw [Bool.eq_iff_iff]; simp; done) | (rw [Bool.eq_iff_iff]; simp; omega)), rfl⟩)

/-- What the parser panics with. -/
def faultV (e : Int) (at_ : Int) : Value := .iface 73 (.agg #[.int .i64 e, .int .i64 at_])
theorem fail_c (e at_ : Int) (w : World) : Calls Tryd.prog 28 #[.int .i64 e, .int .i64 at_] w fun x w' => x = .panicked [{ v := faultV e at_, recovered := false }] ∧ w = w' := by
  go_enter Tryd.func28, Tryd.ntmps28
  go_wp2_with fail
  exact ⟨rfl, rfl, rfl⟩
#print axioms fail_c
end Go.Proofs.YtbjagceopgofiaaDoor
