/-
  The reference's elimination: its state.
-/
import Derived.Test.YtcfejnnhcdlffaaGreatRm
import Derived.Test.YtcfejnnhcdlffaaGreatGk
namespace Go.Proofs.YtcfejnnhcdlffaaGreat
open Go.RowKit Pln

theorem PivAt.neR {w : World} {base B R cR n : Nat} {v : Value} {piv : List Nat} {rows : List (List Nat)} {bs : List (Nat × Nat)} (hp : PivAt w base v piv n bs) (hg : GridAt w B R cR rows bs) : v.ownBlock ≠ some R := by
  intro e
  rcases hp.1.2 with ⟨rfl, _⟩ | ⟨g, cap, cur, rfl, _, hh, _⟩
  · cases e
  · have : g = R := by simpa [Value.ownBlock] using e
    subst this
    obtain ⟨c1, e1⟩ := own_block hg.out
    rw [e1] at hh
    injection hh with hh
    injection hh with _ ht
    exact absurd ht (by decide)
theorem GridAt.same {w : World} {B R cR : Nat} {rows : List (List Nat)} {bs : List (Nat × Nat)} (h : GridAt w B R cR rows bs) {i : Nat} (_hi : i < rows.length) : GridAt (w.setCell ⟨R, i, none⟩ (hdr rows bs i)) B R cR rows bs := by
  refine ⟨h.len, ?_, fun j hj => (h.row j hj).far (p := ⟨R, i, none⟩) (h.ne (h.row j hj)) _, h.nd⟩
  have := (World.ownsRow.stored h.out i (hdr rows bs i)).1
  have e : (hdrs rows bs).set i (hdr rows bs i) = hdrs rows bs := by
    apply List.ext_getElem
    · simp
    · intro j h1 h2
      rw [List.getElem_set]
      by_cases hij : i = j
      · subst hij
        rw [if_pos rfl]
        simp [hdrs]
      · rw [if_neg hij]
  rw [e] at this
  exact this
/-- What stands while the reference eliminates: the field's box, the grid, the pivots. -/
def ES (w : World) (p m : Nat) (A : Option Addr) (n cA R cR : Nat) (rows : List (List Nat)) (N : Nat) (v9 : Value) (piv : List Nat) (bs : List (Nat × Nat)) (wr : World) : Prop :=
  SBoxF w p m A n cA wr ∧ GridAt wr (w.heap.size + 1) R cR rows bs ∧ PivAt wr (w.heap.size + 1) v9 piv N bs ∧ rows.length = N
section
variable {w : World} {p m : Nat} {A : Option Addr} {n cA R cR : Nat} {rows : List (List Nat)} {N : Nat} {v9 : Value} {piv : List Nat} {bs : List (Nat × Nat)} {wr wx : World}
theorem ES.grow (h : ES w p m A n cA R cR rows N v9 piv bs wr) (hb : Below wr.heap.size wr wx) : ES w p m A n cA R cR rows N v9 piv bs wx := by
  obtain ⟨h1, h2, h3, h4⟩ := h
  exact ⟨h1.grow hb, h2.grow hb, h3.grow hb, h4⟩
theorem ES.hd (h : ES w p m A n cA R cR rows N v9 piv bs wr) {q cols : Nat} (hg : Grid q N cols rows) {i : Nat} (hi : i < N) : wr.cell? ⟨R, i, none⟩ = some (.slice (some ⟨bk bs i, 0, none⟩) cols (cp bs i)) := by
  have := h.2.1.cell (i := i) (by rw [h.2.2.2]; exact hi)
  rw [(hg.row hi).1] at this
  exact this
theorem ES.en (h : ES w p m A n cA R cR rows N v9 piv bs wr) {q cols : Nat} (hg : Grid q N cols rows) {i c : Nat} (hi : i < N) (hc : c < cols) : wr.cell? ⟨bk bs i, c, none⟩ = some (.int .i64 ((at2 rows i c : Nat) : Int)) := by
  have h2 := h.2.1.row i (by rw [h.2.2.2]; exact hi)
  have := h2.cell (j := c) (by rw [nz_len, (hg.row hi).1]; exact hc)
  rw [nz_getD] at this
  exact this
theorem ES.ints (h : ES w p m A n cA R cR rows N v9 piv bs wr) {i : Nat} (hi : i < N) : IntsAt wr wr.heap.size (some ⟨bk bs i, 0, none⟩) (nz (rows.getD i [])) := by
  have h2 := h.2.1.row i (by rw [h.2.2.2]; exact hi)
  exact h2.ints h2.lt.2
theorem ES.swap (h : ES w p m A n cA R cR rows N v9 piv bs wr) {i j : Nat} (hi : i < N) (hj : j < N) : ∃ bs', ES w p m A n cA R cR (swapRows rows i j) N v9 piv bs' ((wr.setCell ⟨R, i, none⟩ (hdr rows bs j)).setCell ⟨R, j, none⟩ (hdr rows bs i)) := by
  obtain ⟨h1, h2, h3, h4⟩ := h
  have hR := h2.lt.1
  have hnR := h3.neR h2
  by_cases hij : i = j
  · subst hij
    refine ⟨bs, (h1.wrote hR _).wrote hR _, ?_, ?_, by rw [swap_len, h4]⟩
    · rw [swap_self rows i (by omega)]
      exact (h2.same (by omega)).same (by omega)
    · exact (h3.grown (grown_set wr ⟨R, i, none⟩ _) hnR h3.2).grown (grown_set _ ⟨R, i, none⟩ _) hnR h3.2
  · have hb := bk_swap (n := N) (by rw [h2.len, h4]) hi hj (fun b => v9.ownBlock ≠ some b) h3.2
    refine ⟨SwapBs bs i j, (h1.wrote hR _).wrote hR _, h2.swap (by omega) (by omega) hij, ?_, by rw [swap_len, h4]⟩
    exact (h3.grown (grown_set wr ⟨R, i, none⟩ _) hnR h3.2).grown (grown_set _ ⟨R, j, none⟩ _) hnR hb
theorem ES.put (h : ES w p m A n cA R cR rows N v9 piv bs wr) (hb : Below wr.heap.size wr wx) {i : Nat} (hi : i < N) {g c : Nat} {r : List Nat} (hr : Row wx wr.heap.size g c (nz r)) : ES w p m A n cA R cR (rows.set i r) N v9 piv (bs.set i (g, c)) (wx.setCell ⟨R, i, none⟩ (.slice (some ⟨g, 0, none⟩) r.length c)) := by
  have hx := h.grow hb
  obtain ⟨h1, h2, h3, h4⟩ := hx
  have hsz : w.heap.size + 1 ≤ wr.heap.size := h.1.2.1
  have hrl := hr.lt.1
  refine ⟨h1.wrote h2.lt.1 _, h2.put (by omega) (hr.base (B' := w.heap.size + 1) (by omega)) (fun j hj => by have := (h.2.1.row j hj).lt.2; omega), ?_, by rw [List.length_set, h4]⟩
  refine h3.grown (grown_set wx ⟨R, i, none⟩ _) (h3.neR h2) (bk_set (n := N) (by rw [h2.len, h4]) hi (fun b => v9.ownBlock ≠ some b) ?_ h3.2)
  intro e
  have := (h.2.2.1.1.lt g e).2
  omega
end
theorem ES.push {w : World} {p m : Nat} {A : Option Addr} {n cA R cR : Nat} {rows : List (List Nat)} {N : Nat} {v9 : Value} {piv : List Nat} {bs : List (Nat × Nat)} {wr w3 : World} (h : ES w p m A n cA R cR rows N v9 piv bs wr) {c : Nat} {v' : Value} {o : Obj} (hown : w3.ownsRow (w.heap.size + 1) 3 1 v' (piv.length + 1) ((nz piv).map (Value.int .i64) ++ [.int .i64 (c : Int)]))
    (hg : (wr.alloc o).grownBy w3 v9.ownBlock) (hat : v'.ownBlock = v9.ownBlock ∨ v'.ownBlock = some (wr.heap.size + 1)) : ∃ (VA' : Option Addr) (Vk' : Nat), v' = .slice VA' (piv ++ [c]).length Vk' ∧ ES w p m A n cA R cR rows N (.slice VA' (piv ++ [c]).length Vk') (piv ++ [c]) bs w3 := by
  have ha := h.grow ((Below.refl _ _).alloc (Nat.le_refl _) o)
  have hlo : ∀ g, v9.ownBlock = some g → w.heap.size + 1 ≤ g := fun g e => (h.2.2.1.1.lt g e).1
  obtain ⟨h1, h2, h3, h4⟩ := ha
  have hnR := h3.neR h2
  have hbw : Below w.heap.size (wr.alloc o) w3 := ⟨hg.os, hg.tape, hg.output, hg.size, fun k hk => hg.block k (by have := h1.2.1; omega) (fun e => by have := hlo k e.symm; omega)⟩
  have hx : SBoxF w p m A n cA w3 := ⟨h1.1.trans hbw, Nat.lt_of_lt_of_le h1.2.1 hg.size, (hg.block w.heap.size h1.2.1 (fun e => by have := hlo _ e.symm; omega)).trans h1.2.2⟩
  have hgd : GridAt w3 (w.heap.size + 1) R cR rows bs := h2.kept hg hnR (fun i hi => h3.2 i (by omega))
  have e1 : (piv ++ [c]).length = piv.length + 1 := by simp
  have e2 : (nz (piv ++ [c])).map (Value.int .i64) = (nz piv).map (Value.int .i64) ++ [.int .i64 (c : Int)] := by simp [nz]
  obtain ⟨VA, ck, rfl, _⟩ := own_slice' hown
  refine ⟨VA, ck, by rw [e1], hx, hgd, ⟨by rw [e1, e2]; exact hown, fun j hj => ?_⟩, h4⟩
  rw [e1]
  rcases hat with e | e
  · rw [e]; exact h3.2 j hj
  · rw [e]
    intro e'
    injection e' with e'
    have := (h.2.1.row j (by rw [h.2.2.2]; exact hj)).lt.2
    omega
/-- The header of a row of the width of the grid. -/
theorem hdr_eq {q N cols : Nat} {rows : List (List Nat)} (hg : Grid q N cols rows) (bs : List (Nat × Nat)) {i : Nat} (hi : i < N) : hdr rows bs i = .slice (some ⟨bk bs i, 0, none⟩) cols (cp bs i) := by
  unfold hdr
  rw [(hg.row hi).1]
#print axioms ES.put
end Go.Proofs.YtcfejnnhcdlffaaGreat
