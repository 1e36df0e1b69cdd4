/-
  matrix.eliminate: its steps, as its rounds keep them.
-/
import Derived.Test.YthiackegnpnmbaaGreatQ13
namespace Go.Proofs.YthiackegnpnmbaaGreat
open Go.RowKit Pln

/-- The state while a column is worked on: the rows, the box of 'at', the pivots. -/
def St (w : World) (B R cR gb Bg p m : Nat) (l : List Nat) (rows : List (List Nat)) (n : Nat) (v12 : Value) (piv : List Nat) (ba t : Nat) (wr : World) : Prop :=
  ∃ bs, wr.heap[ba]? = some (.cells #[.int .i64 (t : Int)] 3 (0, 0)) ∧ EI w B R cR gb Bg p m l rows bs wr ∧ PivAt wr (w.heap.size + 3) v12 piv n bs ∧ (∀ i, i < n → bk bs i ≠ ba) ∧ rows.length = n ∧ w.heap.size + 3 ≤ ba
theorem block_lt {w : World} {b : Nat} {o : Obj} (h : w.heap[b]? = some o) : b < w.heap.size := by
  rcases Nat.lt_or_ge b w.heap.size with h1 | h1
  · exact h1
  · rw [Array.getElem?_eq_none h1] at h
    cases h
theorem bk_swap {bs : List (Nat × Nat)} {i j n : Nat} (hl : bs.length = n) (hi : i < n) (hj : j < n) (P : Nat → Prop) (h : ∀ k, k < n → P (bk bs k)) : ∀ k, k < n → P (bk (SwapBs bs i j) k) := by
  intro k hk
  unfold bk SwapBs
  rw [getD_set _ _ _ _ _ (by simp; omega), getD_set _ _ _ _ _ (by omega)]
  split
  · exact h i hi
  · split
    · exact h j hj
    · exact h k hk
theorem bk_set {bs : List (Nat × Nat)} {i n g c : Nat} (hl : bs.length = n) (hi : i < n) (P : Nat → Prop) (hg : P g) (h : ∀ k, k < n → P (bk bs k)) : ∀ k, k < n → P (bk (bs.set i (g, c)) k) := by
  intro k hk
  unfold bk
  rw [getD_set _ _ _ _ _ (by omega)]
  split
  · exact hg
  · exact h k hk
section
variable {w : World} {B R cR gb Bg p m : Nat} {l : List Nat} {rows : List (List Nat)} {n : Nat} {v12 : Value} {piv : List Nat} {ba t : Nat} {wr wx : World}
theorem GridAt.kept {w w' : World} {bs : List (Nat × Nat)} {r : Option Nat} (h : GridAt w B R cR rows bs) (hg : w.grownBy w' r) (hR : r ≠ some R) (hr : ∀ i, i < rows.length → r ≠ some (bk bs i)) : GridAt w' B R cR rows bs :=
  ⟨h.len, own_below h.out (hg.block R h.lt.2 (fun e => hR e.symm)), fun i hi => (h.row i hi).grown hg (fun e => hr i hi e.symm), h.nd⟩
theorem EI.kept {bs : List (Nat × Nat)} {r : Option Nat} (h : EI w B R cR gb Bg p m l rows bs wr) (hB : B ≤ w.heap.size) (hBg : Bg ≤ B) (hg : wr.grownBy wx r) (hr : ∀ g, r = some g → w.heap.size + 3 ≤ g) (ha : ∀ i, i < rows.length → r ≠ some (bk bs i)) : EI w B R cR gb Bg p m l rows bs wx := by
  have hs := h.size
  have ho := h.out
  have hcell : ∀ k, k < 3 → wx.cell? ⟨w.heap.size + k, 0, none⟩ = wr.cell? ⟨w.heap.size + k, 0, none⟩ := fun k hk => hg.cell_far ⟨w.heap.size + k, 0, none⟩ (by show w.heap.size + k < _; omega) (fun e => by have e' : w.heap.size + 3 ≤ w.heap.size + k := hr _ e.symm; omega)
  have hb : Below B wr wx := ⟨hg.os, hg.tape, hg.output, hg.size, fun k hk => hg.block k (by omega) (fun e => by have := hr _ e.symm; omega)⟩
  exact ⟨h.grid.kept hg (fun e => by have := hr _ e; omega) ha, h.field.keep (hb.mono hBg), (hcell 0 (by omega)).trans h.b4, (hcell 1 (by omega)).trans h.b5, (hcell 2 (by omega)).trans h.b7, h.below.trans hb, Nat.le_trans hs hg.size, ho, h.apart⟩
theorem St.grow (h : St w B R cR gb Bg p m l rows n v12 piv ba t wr) (hB : B ≤ w.heap.size) (hBg : Bg ≤ B) (hb : Below wr.heap.size wr wx) : St w B R cR gb Bg p m l rows n v12 piv ba t wx := by
  obtain ⟨bs, h1, h2, h3, h4, h5, h6⟩ := h
  exact ⟨bs, (hb.block ba (block_lt h1)).trans h1, h2.grow hB hBg hb, h3.grow hb, h4, h5, h6⟩
theorem St.b4 (h : St w B R cR gb Bg p m l rows n v12 piv ba t wr) : wr.cell? ⟨w.heap.size, 0, none⟩ = some (.pointer (some ⟨gb, 0, none⟩)) := by
  obtain ⟨_, _, h, _⟩ := h
  exact h.b4
theorem St.b5 (h : St w B R cR gb Bg p m l rows n v12 piv ba t wr) : wr.cell? ⟨w.heap.size + 1, 0, none⟩ = some (.slice (some ⟨R, 0, none⟩) n cR) := by
  obtain ⟨_, _, h, _, _, rfl, _⟩ := h
  exact h.b5
theorem St.box (h : St w B R cR gb Bg p m l rows n v12 piv ba t wr) : wr.cell? ⟨ba, 0, none⟩ = some (.int .i64 t) := by
  obtain ⟨_, h, _⟩ := h
  exact cell_of_row _ _ 0 _ _ _ h
theorem St.field (h : St w B R cR gb Bg p m l rows n v12 piv ba t wr) : GFAt wr Bg gb p m l (logL l (p ^ m)) := by
  obtain ⟨_, _, h, _⟩ := h
  exact h.field
/-- The header and an entry of a row. -/
theorem St.at_ (h : St w B R cR gb Bg p m l rows n v12 piv ba t wr) {cols : Nat} (hg : Grid (p ^ m) n cols rows) {i c : Nat} (hi : i < n) (hc : c < cols) : ∃ b cc, wr.cell? ⟨R, i, none⟩ = some (.slice (some ⟨b, 0, none⟩) cols cc) ∧ wr.cell? ⟨b, c, none⟩ = some (.int .i64 ((at2 rows i c : Nat) : Int)) := by
  obtain ⟨bs, _, h, _, _, hl, _⟩ := h
  have h1 := h.grid.cell (i := i) (by omega)
  have h2 := h.grid.row i (by omega)
  have h3 := (hg.row hi).1
  rw [h3] at h1
  refine ⟨_, _, h1, ?_⟩
  have := h2.cell (j := c) (by rw [nz_len, h3]; exact hc)
  rw [nz_getD] at this
  exact this
def RelD (w : World) (B R cR gb Bg p m : Nat) (l : List Nat) (rows : List (List Nat)) (n : Nat) (v12 : Value) (piv : List Nat) (ba t : Nat) (v10 : Value) (wx : World) : Prop :=
  ∃ d : Nat, v10 = .int .i64 (d : Int) ∧ d < p ^ m ∧ St w B R cR gb Bg p m l rows n v12 piv ba t wx
def RelV (w : World) (B R cR gb Bg p m : Nat) (l : List Nat) (rows : List (List Nat)) (n : Nat) (v12 : Value) (piv : List Nat) (ba t iv : Nat) (v16 v17 : Value) (wx : World) : Prop :=
  ∃ bi : Nat, v16 = .pointer (some ⟨bi, 0, none⟩) ∧ v17 = .int .i64 0 ∧ wx.cell? ⟨bi, 0, none⟩ = some (.int .i64 (iv : Int)) ∧ St w B R cR gb Bg p m l rows n v12 piv ba t wx
def RelCI (w : World) (B R cR gb Bg p m : Nat) (l : List Nat) (c : Nat) (rows2 : List (List Nat)) (n : Nat) (v12 : Value) (piv : List Nat) (ba t : Nat) (v98 : Value) (wx : World) : Prop :=
  ∃ i : Nat, i ≤ n ∧ v98 = .int .i64 (i : Int) ∧ St w B R cR gb Bg p m l (clearGo (opsT p m l) c t rows2 i) n v12 piv ba t wx
theorem swap_st (h : St w B R cR gb Bg p m l rows n v12 piv ba t wr) (hB : B ≤ w.heap.size) (hBg : Bg ≤ B) {k b1 : Nat} (ht : t < n) (hk : k < n) (hne : t ≠ k) (hn : n ≤ 256) (hbk : wr.cell? ⟨b1, 0, none⟩ = some (.int .i64 k)) (hb1 : b1 ≠ R) :
    Calls Tryz.prog 251 #[.func (.func 252) #[] #[.pointer (some ⟨b1, 0, none⟩), .pointer (some ⟨ba, 0, none⟩)], .pointer (some ⟨w.heap.size + 1, 0, none⟩), .pointer (some ⟨w.heap.size + 1 + 1, 0, none⟩)] wr fun e w' => e = .returned (.tuple #[]) ∧ St w B R cR gb Bg p m l (swapRows rows t k) n v12 piv ba t w' := by
  obtain ⟨bs, hbx, hei, hpv, hap, rfl, hba⟩ := h
  have hR := hei.grid.lt
  have ho := hei.out
  refine (each2_c b1 ba R rows.length cR (w.heap.size + 1) (w.heap.size + 1 + 1) R (fun w' => GridAt w' B R cR (swapRows rows t k) (SwapBs bs t k)) wr hei.b5 hei.b7 (by omega)
    (swap_c B R cR t k ba b1 rows bs wr hei.grid ht hk hne (by omega) (cell_of_row _ _ 0 _ _ _ hbx) hbk (by omega) hb1)).mono ?_
  rintro e w' ⟨he, hd, hg⟩
  refine ⟨he, SwapBs bs t k, (hg.block ba (block_lt hbx) (fun e => by injection e with e; omega)).trans hbx, hei.turned hB hBg (swap_len ..) hd hg hR.1 (.inl ho) (bk_swap hei.grid.len ht hk (fun b => b < w.heap.size ∨ w.heap.size + 3 ≤ b) hei.apart), hpv.grown hg (fun e => by have := (hpv.1.lt _ e).1; omega) (bk_swap hei.grid.len ht hk (fun b => v12.ownBlock ≠ some b) hpv.2), bk_swap hei.grid.len ht hk (fun b => b ≠ ba) hap, swap_len .., hba⟩
theorem scale_st (h : St w B R cR gb Bg p m l rows n v12 piv ba t wr) (hB : B ≤ w.heap.size) (hBg : Bg ≤ B) {md : List Nat} {a b1 cols : Nat} (hF : FT p m md l) (hgr : Grid (p ^ m) n cols rows) (hc : cols ≤ 256) (ht : t < n) (hn : n ≤ 256) (ha : a < p ^ m) (hbi : wr.cell? ⟨b1, 0, none⟩ = some (.int .i64 a)) :
    Calls Tryz.prog 251 #[.func (.func 253) #[] #[.pointer (some ⟨w.heap.size, 0, none⟩), .pointer (some ⟨b1, 0, none⟩), .pointer (some ⟨ba, 0, none⟩)], .pointer (some ⟨w.heap.size + 1, 0, none⟩), .pointer (some ⟨w.heap.size + 1 + 1, 0, none⟩)] wr fun e w' => e = .returned (.tuple #[]) ∧ St w B R cR gb Bg p m l (rows.set t (scaleRow (opsT p m l) a (rows.getD t []))) n v12 piv ba t w' := by
  obtain ⟨bs, hbx, hei, hpv, hap, rfl, hba⟩ := h
  have hR := hei.grid.lt
  have ho := hei.out
  have hs := hei.size
  have hbl := block_lt hbx
  obtain ⟨hr1, hr2⟩ := hgr.row ht
  refine (each3_c w.heap.size b1 ba R rows.length cR (w.heap.size + 1) (w.heap.size + 1 + 1) R (fun w' => GridAt w' B R cR (rows.set t (scaleRow (opsT p m l) a (rows.getD t []))) (bs.set t (wr.heap.size, (rows.getD t []).length))) wr hei.b5 hei.b7 (by omega)
    (scrow_c B R cR t w.heap.size b1 ba gb p m a md l rows bs wr hF (hei.field.more (by omega)) hei.grid ht (by omega) ha hr2 (by omega) (by omega) hei.b4 hbi (cell_of_row _ _ 0 _ _ _ hbx))).mono ?_
  rintro e w' ⟨he, hd, hg⟩
  refine ⟨he, bs.set t (wr.heap.size, (rows.getD t []).length), (hg.block ba hbl (fun e => by injection e with e; omega)).trans hbx, hei.turned hB hBg (by simp) hd hg hR.1 (.inl ho) (bk_set hei.grid.len ht (fun b => b < w.heap.size ∨ w.heap.size + 3 ≤ b) (.inr hs) hei.apart), hpv.grown hg (fun e => by have := (hpv.1.lt _ e).1; omega) (bk_set hei.grid.len ht (fun b => v12.ownBlock ≠ some b) (fun e => by have := (hpv.1.lt _ e).2; omega) hpv.2), bk_set hei.grid.len ht (fun b => b ≠ ba) (by omega) hap, by simp, hba⟩
theorem clear_st (h : St w B R cR gb Bg p m l rows n v12 piv ba t wr) (hB : B ≤ w.heap.size) (hBg : Bg ≤ B) {md : List Nat} {i x bi bx cols : Nat} (hF : FT p m md l) (hgr : Grid (p ^ m) n cols rows) (hc : cols ≤ 256) (ht : t < n) (hi : i < n) (hit : i ≠ t) (hn : n ≤ 256) (hx : x < p ^ m) (hbi : wr.cell? ⟨bi, 0, none⟩ = some (.int .i64 i)) (hbx' : wr.cell? ⟨bx, 0, none⟩ = some (.int .i64 x)) :
    Calls Tryz.prog 251 #[.func (.func 254) #[] #[.pointer (some ⟨w.heap.size, 0, none⟩), .pointer (some ⟨bi, 0, none⟩), .pointer (some ⟨bx, 0, none⟩), .pointer (some ⟨ba, 0, none⟩)], .pointer (some ⟨w.heap.size + 1, 0, none⟩), .pointer (some ⟨w.heap.size + 1 + 1, 0, none⟩)] wr fun e w' => e = .returned (.tuple #[]) ∧ St w B R cR gb Bg p m l (rows.set i (addRow (opsT p m l) (rows.getD i []) (negD p m x) (rows.getD t []))) n v12 piv ba t w' := by
  obtain ⟨bs, hbx, hei, hpv, hap, rfl, hba⟩ := h
  have hs := hei.size
  have hbl := block_lt hbx
  have hai := hei.apart i hi
  obtain ⟨hr1, hr2⟩ := hgr.row hi
  obtain ⟨hr3, hr4⟩ := hgr.row ht
  refine (each4_c w.heap.size bi bx ba R rows.length cR (w.heap.size + 1) (w.heap.size + 1 + 1) (bk bs i) (fun w' => GridAt w' B R cR (rows.set i (addRow (opsT p m l) (rows.getD i []) (negD p m x) (rows.getD t []))) bs) wr hei.b5 hei.b7 (by omega)
    (clrow_c B R cR i t w.heap.size bi bx ba gb Bg p m x md l rows bs wr hF hei.field hBg hei.grid hi ht hit (by omega) hx hr2 hr4 (by omega) (by omega) hei.b4 hbi hbx' (cell_of_row _ _ 0 _ _ _ hbx))).mono ?_
  rintro e w' ⟨he, hd, hg⟩
  exact ⟨he, bs, (hg.block ba hbl (fun e => hap i hi (by injection e with e; exact e.symm))).trans hbx, hei.turned hB hBg (by simp) hd hg (hei.grid.row i hi).lt.1 hai hei.apart, hpv.grown hg (hpv.2 i hi) hpv.2, hap, by simp, hba⟩
end
/-! ### Plain: what a column with a pivot does -/
theorem col_facts {p m : Nat} {md l : List Nat} (hF : FT p m md l) {n cols c k : Nat} {s : ElS} (hG : Grid (p ^ m) n cols s.rows) (hpn : s.piv.length < n) (hlt : c < cols) (hk : k = findRow s.rows c (s.rows.length - s.piv.length) s.piv.length) (hk2 : k < n) :
    Grid (p ^ m) n cols (swapRows s.rows s.piv.length k) ∧ at2 (swapRows s.rows s.piv.length k) s.piv.length c ≠ 0 ∧ Grid (p ^ m) n cols (normRow (opsT p m l) (swapRows s.rows s.piv.length k) s.piv.length c) ∧
    (∀ i, i ≤ n → Grid (p ^ m) n cols (clearGo (opsT p m l) c s.piv.length (normRow (opsT p m l) (swapRows s.rows s.piv.length k) s.piv.length c) i)) ∧
    elStep (opsT p m l) c s = ⟨clearGo (opsT p m l) c s.piv.length (normRow (opsT p m l) (swapRows s.rows s.piv.length k) s.piv.length c) n, s.piv ++ [c]⟩ := by
  have hln := hG.1
  have g1 := swap_grid hG hpn hk2
  have e0 : at2 s.rows k c ≠ 0 := by
    have := findRow_ne s.rows c (s.rows.length - s.piv.length) s.piv.length (by omega)
    rw [← hk] at this
    exact this
  have e1 : at2 (swapRows s.rows s.piv.length k) s.piv.length c ≠ 0 := by
    unfold at2 at e0 ⊢
    rw [swap_at (by omega) (by omega)]
    exact e0
  have g2 := (norm_eq (opsT_self hF) g1 hpn hlt e1).2
  refine ⟨g1, e1, g2, fun i hi => (clear_eq (opsT_self hF) g2 hlt hpn i hi).2, ?_⟩
  unfold elStep
  rw [if_pos (by omega), ← hk, if_neg (by omega), hln]
theorem inv_one {p m : Nat} {md l : List Nat} (hF : FT p m md l) {x : Nat} (hx : x < p ^ m) (h0 : x ≠ 0) : (opsT p m l).inv x < p ^ m ∧ (x = 1 ↔ (opsT p m l).inv x = 1) := by
  have H := mulM_mon (p := p) (m := m) (by have := hF.small.p1; omega) hF.small.m1 md
  obtain ⟨h1, h2, _⟩ := hF.tab.inv H h0 hx
  refine ⟨h2, ?_, ?_⟩
  · intro h
    subst h
    rw [H.one _ h2] at h1
    exact h1
  · intro h
    have h3 : invT l (logL l (p ^ m)) (p ^ m) x = 1 := h
    rw [h3, H.comm, H.one _ hx] at h1
    exact h1
theorem swap_self (rows : List (List Nat)) (i : Nat) (hi : i < rows.length) : swapRows rows i i = rows := by
  unfold swapRows
  apply List.ext_getElem
  · simp
  · intro j h1 h2
    rw [List.getElem_set, List.getElem_set]
    by_cases h : i = j
    · subst h; simp [List.getD, hi]
    · rw [if_neg h, if_neg h]
theorem clear_stay {O : Ops} {c t i : Nat} {rows : List (List Nat)} (h : i = t ∨ at2 (clearGo O c t rows i) i c = 0) : clearGo O c t rows (i + 1) = clearGo O c t rows i := by
  show (if _ then _ else _) = _
  rw [if_neg (by omega)]
theorem clear_turn {O : Ops} {c t i : Nat} {rows : List (List Nat)} (h1 : i ≠ t) (h2 : at2 (clearGo O c t rows i) i c ≠ 0) : clearGo O c t rows (i + 1) = (clearGo O c t rows i).set i (addRow O ((clearGo O c t rows i).getD i []) (O.neg (at2 (clearGo O c t rows i) i c)) ((clearGo O c t rows i).getD t [])) := by
  show (if _ then _ else _) = _
  rw [if_pos ⟨h1, h2⟩]
end Go.Proofs.YthiackegnpnmbaaGreat

