/-
  matrix.eliminate: a step done to the rows (there are no other rows).
-/
import Derived.Test.YtcfejnnhcdlffaaGreatGe
namespace Go.Proofs.YtcfejnnhcdlffaaGreat
open Go.RowKit Pln

set_option maxHeartbeats 1000000 in
set_option maxRecDepth 100000 in
theorem each2_c (p0 p1 R n cR b5 b7 g : Nat) (Q : World → Prop) (w : World) (h5 : w.cell? ⟨b5, 0, none⟩ = some (.slice (some ⟨R, 0, none⟩) n cR)) (h7 : w.cell? ⟨b7, 0, none⟩ = some (.slice none 0 0)) (hne : b7 ≠ g)
    (hs : Calls Tryz.prog 194 #[.slice (some ⟨R, 0, none⟩) n cR, .pointer (some ⟨p0, 0, none⟩), .pointer (some ⟨p1, 0, none⟩)] w fun e w' => e = .returned (.tuple #[]) ∧ Q w' ∧ w.grownBy w' (some g)) :
    Calls Tryz.prog 193 #[.func (.func 194) #[] #[.pointer (some ⟨p0, 0, none⟩), .pointer (some ⟨p1, 0, none⟩)], .pointer (some ⟨b5, 0, none⟩), .pointer (some ⟨b7, 0, none⟩)] w fun e w' => e = .returned (.tuple #[]) ∧ Q w' ∧ w.grownBy w' (some g) := by
  have HS := Lib.hid hs
  have H7 := Lib.hid h7
  have hlt : b7 < w.heap.size := World.block_lt_of_cell? w _ h7
  clear hs h7
  go_enter Tryz.func193, Tryz.ntmps193
  go_wp2_with fail
  (with_reducible refine HS.out.mono ?_)
  rintro e w1 ⟨rfl, hq, hg⟩
  have HQ := Lib.hid hq
  have HG := Lib.hid hg
  have h7 : w1.cell? ⟨b7, 0, none⟩ = some (.slice none 0 0) := (hg.cell_far ⟨b7, 0, none⟩ hlt (fun e => hne (by injection e))).trans H7.out
  clear hq hg h5
  go_wp2_with fail
  go_end0
  exact ⟨rfl, HQ.out, HG.out⟩
#print axioms each2_c

set_option maxHeartbeats 1000000 in
set_option maxRecDepth 100000 in
theorem each3_c (p0 p1 p2 R n cR b5 b7 g : Nat) (Q : World → Prop) (w : World) (h5 : w.cell? ⟨b5, 0, none⟩ = some (.slice (some ⟨R, 0, none⟩) n cR)) (h7 : w.cell? ⟨b7, 0, none⟩ = some (.slice none 0 0)) (hne : b7 ≠ g)
    (hs : Calls Tryz.prog 195 #[.slice (some ⟨R, 0, none⟩) n cR, .pointer (some ⟨p0, 0, none⟩), .pointer (some ⟨p1, 0, none⟩), .pointer (some ⟨p2, 0, none⟩)] w fun e w' => e = .returned (.tuple #[]) ∧ Q w' ∧ w.grownBy w' (some g)) :
    Calls Tryz.prog 193 #[.func (.func 195) #[] #[.pointer (some ⟨p0, 0, none⟩), .pointer (some ⟨p1, 0, none⟩), .pointer (some ⟨p2, 0, none⟩)], .pointer (some ⟨b5, 0, none⟩), .pointer (some ⟨b7, 0, none⟩)] w fun e w' => e = .returned (.tuple #[]) ∧ Q w' ∧ w.grownBy w' (some g) := by
  have HS := Lib.hid hs
  have H7 := Lib.hid h7
  have hlt : b7 < w.heap.size := World.block_lt_of_cell? w _ h7
  clear hs h7
  go_enter Tryz.func193, Tryz.ntmps193
  go_wp2_with fail
  (with_reducible refine HS.out.mono ?_)
  rintro e w1 ⟨rfl, hq, hg⟩
  have HQ := Lib.hid hq
  have HG := Lib.hid hg
  have h7 : w1.cell? ⟨b7, 0, none⟩ = some (.slice none 0 0) := (hg.cell_far ⟨b7, 0, none⟩ hlt (fun e => hne (by injection e))).trans H7.out
  clear hq hg h5
  go_wp2_with fail
  go_end0
  exact ⟨rfl, HQ.out, HG.out⟩
#print axioms each3_c

set_option maxHeartbeats 1000000 in
set_option maxRecDepth 100000 in
theorem each4_c (p0 p1 p2 p3 R n cR b5 b7 g : Nat) (Q : World → Prop) (w : World) (h5 : w.cell? ⟨b5, 0, none⟩ = some (.slice (some ⟨R, 0, none⟩) n cR)) (h7 : w.cell? ⟨b7, 0, none⟩ = some (.slice none 0 0)) (hne : b7 ≠ g)
    (hs : Calls Tryz.prog 196 #[.slice (some ⟨R, 0, none⟩) n cR, .pointer (some ⟨p0, 0, none⟩), .pointer (some ⟨p1, 0, none⟩), .pointer (some ⟨p2, 0, none⟩), .pointer (some ⟨p3, 0, none⟩)] w fun e w' => e = .returned (.tuple #[]) ∧ Q w' ∧ w.grownBy w' (some g)) :
    Calls Tryz.prog 193 #[.func (.func 196) #[] #[.pointer (some ⟨p0, 0, none⟩), .pointer (some ⟨p1, 0, none⟩), .pointer (some ⟨p2, 0, none⟩), .pointer (some ⟨p3, 0, none⟩)], .pointer (some ⟨b5, 0, none⟩), .pointer (some ⟨b7, 0, none⟩)] w fun e w' => e = .returned (.tuple #[]) ∧ Q w' ∧ w.grownBy w' (some g) := by
  have HS := Lib.hid hs
  have H7 := Lib.hid h7
  have hlt : b7 < w.heap.size := World.block_lt_of_cell? w _ h7
  clear hs h7
  go_enter Tryz.func193, Tryz.ntmps193
  go_wp2_with fail
  (with_reducible refine HS.out.mono ?_)
  rintro e w1 ⟨rfl, hq, hg⟩
  have HQ := Lib.hid hq
  have HG := Lib.hid hg
  have h7 : w1.cell? ⟨b7, 0, none⟩ = some (.slice none 0 0) := (hg.cell_far ⟨b7, 0, none⟩ hlt (fun e => hne (by injection e))).trans H7.out
  clear hq hg h5
  go_wp2_with fail
  go_end0
  exact ⟨rfl, HQ.out, HG.out⟩
#print axioms each4_c
end Go.Proofs.YtcfejnnhcdlffaaGreat
