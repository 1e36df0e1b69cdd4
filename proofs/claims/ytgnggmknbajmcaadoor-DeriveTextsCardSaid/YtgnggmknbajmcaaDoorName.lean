/-
  The reference's name of a rule.
-/
import Derived.Test.YtgnggmknbajmcaaDoorNum
namespace Go.Proofs.YtgnggmknbajmcaaDoor
open Go.RowKit

def ruleNames : List (List UInt8) := [[116, 114, 105, 118, 105, 97, 108], [99, 111, 108, 117, 109, 110, 115], [122, 101, 114, 111, 115], [118, 97, 110, 100, 101, 114, 109, 111, 110, 100, 101], [112, 117, 110, 99, 116, 117, 114, 101], [115, 104, 111, 114, 116, 101, 110], [115, 117, 98, 99, 111, 100, 101], [101, 120, 116, 101, 110, 100], [115, 117, 109], [112, 108, 111, 116, 107, 105, 110], [112, 114, 111, 100, 117, 99, 116], [99, 111, 110, 99, 97, 116, 101, 110, 97, 116, 101], [115, 117, 98, 102, 105, 101, 108, 100], [109, 97, 112], [100, 105, 118, 105, 115, 105, 98, 108, 101], [100, 105, 115, 116, 114, 105, 98, 117, 116, 105, 111, 110], [116, 114, 97, 110, 115, 102, 111, 114, 109], [101, 120, 99, 108, 117, 115, 105, 111, 110], [105, 110, 116, 101, 114, 108, 101, 97, 118, 101], [99, 111, 110, 115, 116, 114, 117, 99, 116, 105, 111, 110]]
def nameOf (r : Int) : List UInt8 := if 0 ≤ r ∧ r < 20 then ruleNames.getD r.toNat [] else [63]

theorem rule_at (n : Nat) (h : n < 20) : (ruleNames.map fun l => Value.string ⟨l.toArray⟩)[n]'(by simpa [ruleNames] using h) = .string ⟨(nameOf n).toArray⟩ := by
  have hl : n < ruleNames.length := by simpa [ruleNames] using h
  rw [List.getElem_map]
  unfold nameOf
  rw [if_pos ⟨by omega, by omega⟩]
  simp [List.getElem?_eq_getElem hl]

set_option maxHeartbeats 1000000 in
theorem name_in (r : Int) (w : World) (h0 : 0 ≤ r) (h1 : r < 20)  :
    Calls Tryd.prog 10 #[.int .i64 r] w fun e w' => e = .returned (.string ⟨(nameOf r).toArray⟩) ∧ Below w.heap.size w w' := by
  obtain ⟨n, rfl⟩ := Int.eq_ofNat_of_zero_le h0
  have hn : n < 20 := by omega
  have hL := Lib.hid (rule_at n hn)
  go_enter Tryd.func10, Tryd.ntmps10
  go_wp2_with fail
  go_ret
  exact ⟨congrArg Ending.returned hL.out, (Below.refl _ _).alloc (Nat.le_refl _) _⟩
theorem name_out (r : Int) (w : World) (h : r < 0 ∨ 20 ≤ r)  :
    Calls Tryd.prog 10 #[.int .i64 r] w fun e w' => e = .returned (.string ⟨(nameOf r).toArray⟩) ∧ Below w.heap.size w w' := by
  have hh : Hid (nameOf r = [63]) := by unfold Hid nameOf; rw [if_neg (by omega)]
  rcases h with h | h
  · go_enter Tryd.func10, Tryd.ntmps10
    go_wp2_with fail
    go_ret
    refine ⟨ret_str ?_, (Below.refl _ _).alloc (Nat.le_refl _) _⟩
    rw [hh.out]
  · have h2 : ¬ r < 0 := by omega
    go_enter Tryd.func10, Tryd.ntmps10
    go_wp2_with fail
    go_ret
    refine ⟨ret_str ?_, (Below.refl _ _).alloc (Nat.le_refl _) _⟩
    rw [hh.out]
theorem name_any (r : Int) (w : World) : Calls Tryd.prog 10 #[.int .i64 r] w fun e w' => e = .returned (.string ⟨(nameOf r).toArray⟩) ∧ Below w.heap.size w w' := by
  by_cases h : 0 ≤ r ∧ r < 20
  · exact name_in r w h.1 h.2
  · exact name_out r w (by omega)
#print axioms name_any
end Go.Proofs.YtgnggmknbajmcaaDoor
