/-
  matrix.eliminate: what its rounds keep.
-/
import Derived.Test.YtcfejnnhcdlffaaGreatGf
namespace Go.Proofs.YtcfejnnhcdlffaaGreat
open Go.RowKit Pln

/-- What stands while rows are eliminated: the grid, the field, the boxes of the field, of the rows and of the (missing) other rows. -/
structure EI (w : World) (B R cR gb Bg p m : Nat) (l : List Nat) (rows : List (List Nat)) (bs : List (Nat × Nat)) (wr : World) : Prop where
  grid : GridAt wr B R cR rows bs
  field : GFAt wr Bg gb p m l (logL l (p ^ m))
  b4 : wr.cell? ⟨w.heap.size, 0, none⟩ = some (.pointer (some ⟨gb, 0, none⟩))
  b5 : wr.cell? ⟨w.heap.size + 1, 0, none⟩ = some (.slice (some ⟨R, 0, none⟩) rows.length cR)
  b7 : wr.cell? ⟨w.heap.size + 1 + 1, 0, none⟩ = some (.slice none 0 0)
  below : Below B w wr
  size : w.heap.size + 3 ≤ wr.heap.size
  out : R < w.heap.size
  apart : ∀ i, i < rows.length → bk bs i < w.heap.size ∨ w.heap.size + 3 ≤ bk bs i
/-- The pivots so far, apart from all rows. -/
def PivAt (w : World) (base : Nat) (v : Value) (piv : List Nat) (n : Nat) (bs : List (Nat × Nat)) : Prop :=
  w.ownsRow base 3 1 v piv.length ((nz piv).map (Value.int .i64)) ∧ ∀ i, i < n → v.ownBlock ≠ some (bk bs i)
section
variable {w : World} {B R cR gb Bg p m : Nat} {l : List Nat} {rows : List (List Nat)} {bs : List (Nat × Nat)} {wr wx : World}
/-- Memory has only been made. -/
theorem EI.grow (h : EI w B R cR gb Bg p m l rows bs wr) (hB : B ≤ w.heap.size) (hBg : Bg ≤ B) (hb : Below wr.heap.size wr wx) : EI w B R cR gb Bg p m l rows bs wx := by
  have hs := h.size
  refine ⟨h.grid.grow hb, h.field.keep (hb.mono (by omega)), (hb.cell (p := ⟨w.heap.size, 0, none⟩) (by show w.heap.size < _; omega)).trans h.b4, (hb.cell (p := ⟨w.heap.size + 1, 0, none⟩) (by show w.heap.size + 1 < _; omega)).trans h.b5,
    (hb.cell (p := ⟨w.heap.size + 2, 0, none⟩) (by show w.heap.size + 2 < _; omega)).trans h.b7, h.below.trans (hb.mono (by omega)), Nat.le_trans hs hb.size, h.out, h.apart⟩
/-- A block of the call's own that is neither of the boxes nor of the grid has been written. -/
theorem EI.wrote (h : EI w B R cR gb Bg p m l rows bs wr) (hB : B ≤ w.heap.size) (hBg : Bg ≤ B) {g : Nat} (hg : w.heap.size + 3 ≤ g) (hap : ∀ i, i < rows.length → bk bs i ≠ g) (u : Value) : EI w B R cR gb Bg p m l rows bs (wr.setCell ⟨g, 0, none⟩ u) := by
  have hs := h.size
  have ho := h.out
  have hb : Below (w.heap.size + 3) wr (wr.setCell ⟨g, 0, none⟩ u) := (Below.refl _ _).setCell (p := ⟨g, 0, none⟩) hg u
  refine ⟨h.grid.else_ (p := ⟨g, 0, none⟩) (by show R ≠ g; omega) hap u, h.field.keep (hb.mono (by omega)), (hb.cell (p := ⟨w.heap.size, 0, none⟩) (by show w.heap.size < _; omega)).trans h.b4, (hb.cell (p := ⟨w.heap.size + 1, 0, none⟩) (by show w.heap.size + 1 < _; omega)).trans h.b5,
    (hb.cell (p := ⟨w.heap.size + 2, 0, none⟩) (by show w.heap.size + 2 < _; omega)).trans h.b7, h.below.trans (hb.mono (by omega)), Nat.le_trans hs (by simp), h.out, h.apart⟩
/-- The grid has been turned: another grid of as many rows, one block written or replaced. -/
theorem EI.turned (h : EI w B R cR gb Bg p m l rows bs wr) (hB : B ≤ w.heap.size) (hBg : Bg ≤ B) {rows' : List (List Nat)} {bs' : List (Nat × Nat)} {g : Nat} (hl : rows'.length = rows.length) (hd : GridAt wx B R cR rows' bs') (hg : wr.grownBy wx (some g)) (hgB : B ≤ g) (hgb : g < w.heap.size ∨ w.heap.size + 3 ≤ g)
    (hap : ∀ i, i < rows.length → bk bs' i < w.heap.size ∨ w.heap.size + 3 ≤ bk bs' i) : EI w B R cR gb Bg p m l rows' bs' wx := by
  have hs := h.size
  have hcell : ∀ k, k < 3 → wx.cell? ⟨w.heap.size + k, 0, none⟩ = wr.cell? ⟨w.heap.size + k, 0, none⟩ := fun k hk => hg.cell_far ⟨w.heap.size + k, 0, none⟩ (by show w.heap.size + k < _; omega) (fun e => by injection e with e; have e' : w.heap.size + k = g := e; omega)
  have hb : Below B wr wx := ⟨hg.os, hg.tape, hg.output, hg.size, fun k hk => hg.block k (by omega) (fun e => by injection e with e; omega)⟩
  exact ⟨hd, h.field.keep (hb.mono hBg), (hcell 0 (by omega)).trans h.b4, by rw [hl]; exact (hcell 1 (by omega)).trans h.b5, (hcell 2 (by omega)).trans h.b7, h.below.trans hb, Nat.le_trans hs hg.size, h.out, fun i hi => hap i (by omega)⟩
end
theorem PivAt.grow {w w' : World} {base n : Nat} {v : Value} {piv : List Nat} {bs : List (Nat × Nat)} (h : PivAt w base v piv n bs) (hb : Below w.heap.size w w') : PivAt w' base v piv n bs := by
  refine ⟨h.1.kept (row := none) ⟨hb.os, hb.tape, hb.output, hb.size, fun k hk _ => hb.block k hk⟩ ?_, h.2⟩
  cases hv : v.ownBlock <;> simp
theorem PivAt.grown {w w' : World} {base n g : Nat} {v : Value} {piv : List Nat} {bs bs' : List (Nat × Nat)} (h : PivAt w base v piv n bs) (hg : w.grownBy w' (some g)) (hne : v.ownBlock ≠ some g) (hb : ∀ i, i < n → v.ownBlock ≠ some (bk bs' i)) : PivAt w' base v piv n bs' :=
  ⟨h.1.kept hg (.inr hne), hb⟩

/-! ### Plain: the model's steps keep the number of rows; a full set of pivots stays -/
section
variable {O : Ops}
theorem swap_len (rows : List (List Nat)) (i j : Nat) : (swapRows rows i j).length = rows.length := by simp [swapRows]
theorem norm_len (rows : List (List Nat)) (i c : Nat) : (normRow O rows i c).length = rows.length := by unfold normRow; split <;> simp
theorem clear_len (c t : Nat) (rows : List (List Nat)) : ∀ i, (clearGo O c t rows i).length = rows.length
  | 0 => rfl
  | i + 1 => by
    unfold clearGo
    split
    · rw [List.length_set]; exact clear_len c t rows i
    · exact clear_len c t rows i
theorem elStep_len (c : Nat) (s : ElS) : (elStep O c s).rows.length = s.rows.length := by
  unfold elStep
  split
  · split
    · rfl
    · show (clearGo O c _ _ _).length = _
      rw [clear_len, norm_len, swap_len]
  · rfl
theorem elGo_len (rows : List (List Nat)) : ∀ c, (elGo O rows c).rows.length = rows.length
  | 0 => rfl
  | c + 1 => by unfold elGo; rw [elStep_len, elGo_len rows c]
theorem elGo_piv (rows : List (List Nat)) : ∀ c, (elGo O rows c).piv.length ≤ c ∧ (elGo O rows c).piv.length ≤ rows.length
  | 0 => ⟨Nat.zero_le _, Nat.zero_le _⟩
  | c + 1 => by
    have ih := elGo_piv rows c
    have hl := elGo_len (O := O) rows c
    unfold elGo elStep
    split
    · split
      · exact ⟨by omega, ih.2⟩
      · rename_i h1 h2
        show ((elGo O rows c).piv ++ [c]).length ≤ _ ∧ ((elGo O rows c).piv ++ [c]).length ≤ _
        rw [List.length_append, List.length_singleton]
        omega
    · exact ⟨by omega, ih.2⟩
theorem elGo_full (rows : List (List Nat)) {c : Nat} (h : (elGo O rows c).piv.length = rows.length) : ∀ k, elGo O rows (c + k) = elGo O rows c
  | 0 => rfl
  | k + 1 => by
    have ih := elGo_full rows h k
    show elStep O (c + k) (elGo O rows (c + k)) = _
    rw [ih]
    unfold elStep
    rw [if_neg (by rw [h, elGo_len]; omega)]
end
theorem opsT_self {p m : Nat} {md l : List Nat} (h : FT p m md l) : OpsEq (p ^ m) (opsT p m l) (opsT p m l) where
  add x y _ _ := ⟨rfl, addD_lt (by have := h.small.p1; omega) m x y⟩
  mul x y hx hy := ⟨rfl, mulT_lt h hx hy⟩
  neg x _ := ⟨rfl, negD_lt (by have := h.small.p1; omega) m x⟩
  inv x hx h0 := ⟨rfl, (h.tab.inv (mulM_mon (by have := h.small.p1; omega) h.small.m1 md) h0 hx).2.1⟩
#print axioms elGo_full
end Go.Proofs.YtcfejnnhcdlffaaGreat
