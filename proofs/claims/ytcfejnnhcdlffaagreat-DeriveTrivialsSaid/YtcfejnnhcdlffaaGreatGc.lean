/-
  A grid of rows of the call's own; matrix.clone.
-/
import Derived.Test.YtcfejnnhcdlffaaGreatGb
namespace Go.Proofs.YtcfejnnhcdlffaaGreat
open Go.RowKit Pln

theorem infoInts : (Tryz.prog.info? 22).map (fun i => (i.zero, i.size, i.bytes)) = some (some (.slice none 0 0), 1, 24) := by kernel_rfl
def bk (bs : List (Nat × Nat)) (i : Nat) : Nat := (bs.getD i (0, 0)).1
def cp (bs : List (Nat × Nat)) (i : Nat) : Nat := (bs.getD i (0, 0)).2
def hdr (rows : List (List Nat)) (bs : List (Nat × Nat)) (i : Nat) : Value := .slice (some ⟨bk bs i, 0, none⟩) (rows.getD i []).length (cp bs i)
def hdrs (rows : List (List Nat)) (bs : List (Nat × Nat)) : List Value := (List.range rows.length).map (hdr rows bs)
theorem hdrs_len (rows : List (List Nat)) (bs : List (Nat × Nat)) : (hdrs rows bs).length = rows.length := by simp [hdrs]
/-- A grid: the outer row R of slice headers, the rows in distinct blocks, all from block B on. -/
structure GridAt (w : World) (B R cR : Nat) (rows : List (List Nat)) (bs : List (Nat × Nat)) : Prop where
  len : bs.length = rows.length
  out : w.ownsRow B 22 1 (.slice (some ⟨R, 0, none⟩) rows.length cR) rows.length (hdrs rows bs)
  row : ∀ i, i < rows.length → Row w B (bk bs i) (cp bs i) (nz (rows.getD i []))
  nd : ∀ i j, i < rows.length → j < rows.length → i ≠ j → bk bs i ≠ bk bs j
section
variable {w w' : World} {B R cR : Nat} {rows : List (List Nat)} {bs : List (Nat × Nat)}
theorem GridAt.cell (h : GridAt w B R cR rows bs) {i : Nat} (hi : i < rows.length) : w.cell? ⟨R, i, none⟩ = some (.slice (some ⟨bk bs i, 0, none⟩) (rows.getD i []).length (cp bs i)) := by
  rw [World.ownsRow.cellAt h.out i (by omega)]
  simp [hdrs, hi, hdr]
theorem GridAt.frozen (h : GridAt w B R cR rows bs) (i : Nat) : w.frozen? ⟨R, i, none⟩ = false := World.ownsRow.frozenAt h.out i
theorem GridAt.lt (h : GridAt w B R cR rows bs) : B ≤ R ∧ R < w.heap.size := World.ownsRow.lt h.out R rfl
theorem own_block {e : TypeId} {n c : Nat} {xs : List Value} (h : w.ownsRow B e 1 (.slice (some ⟨R, 0, none⟩) n c) n xs) : ∃ cur, w.heap[R]? = some (.cells cur e (0, 0)) := by
  rcases h.2 with ⟨h1, _⟩ | ⟨g, cap, cur, hv, _, hh, _⟩
  · cases h1
  · simp only [Value.slice.injEq, Option.some.injEq, Addr.mk.injEq, and_true, true_and] at hv
    obtain ⟨rfl, _⟩ := hv
    exact ⟨cur, hh⟩
theorem own_below {e : TypeId} {n c : Nat} {xs : List Value} (h : w.ownsRow B e 1 (.slice (some ⟨R, 0, none⟩) n c) n xs) (hb : w'.heap[R]? = w.heap[R]?) : w'.ownsRow B e 1 (.slice (some ⟨R, 0, none⟩) n c) n xs := by
  refine ⟨h.1, ?_⟩
  rcases h.2 with ⟨h1, _⟩ | ⟨g, cap, cur, hv, hB, hh, r⟩
  · cases h1
  · have : g = R := by
      simp only [Value.slice.injEq, Option.some.injEq, Addr.mk.injEq, and_true, true_and] at hv
      exact hv.1.symm
    exact .inr ⟨g, cap, cur, hv, hB, by rw [this] at hh ⊢; exact hb.trans hh, r⟩
theorem GridAt.ne (h : GridAt w B R cR rows bs) {B' g c : Nat} {zs : List Int} (hr : Row w B' g c zs) : g ≠ R := by
  rintro rfl
  obtain ⟨c1, e1⟩ := own_block h.out
  obtain ⟨c2, e2⟩ := own_block (e := 3) hr
  rw [e1] at e2
  injection e2 with e2
  injection e2 with _ ht
  exact absurd ht (by decide)
theorem GridAt.of_blocks (h : GridAt w B R cR rows bs) (hb : ∀ k, B ≤ k → k < w.heap.size → w'.heap[k]? = w.heap[k]?) : GridAt w' B R cR rows bs := by
  refine ⟨h.len, own_below h.out (hb R h.lt.1 h.lt.2), fun i hi => ?_, h.nd⟩
  have hr := h.row i hi
  exact own_below hr (hb _ hr.lt.1 hr.lt.2)
theorem GridAt.grow (h : GridAt w B R cR rows bs) (hb : Below w.heap.size w w') : GridAt w' B R cR rows bs := h.of_blocks fun k _ hk => hb.block k hk
theorem GridAt.drewN (h : GridAt w B R cR rows bs) (n : Nat) : GridAt (w.drewN n) B R cR rows bs := h.of_blocks fun _ _ _ => rfl
theorem GridAt.far (h : GridAt w B R cR rows bs) {p : Addr} (hp : p.block < B ∨ w.heap.size ≤ p.block) (u : Value) : GridAt (w.setCell p u) B R cR rows bs :=
  h.of_blocks fun k h1 h2 => Below.heap_setCell w p u k (by omega)
/-- A store elsewhere: neither the outer row nor a row. -/
theorem GridAt.else_ (h : GridAt w B R cR rows bs) {p : Addr} (hR : R ≠ p.block) (hr : ∀ i, i < rows.length → bk bs i ≠ p.block) (u : Value) : GridAt (w.setCell p u) B R cR rows bs := by
  refine ⟨h.len, own_below h.out (Below.heap_setCell w p u R hR), fun i hi => (h.row i hi).far (hr i hi) u, h.nd⟩
theorem getD_set {α : Type} (l : List α) (i j : Nat) (x d : α) (hi : i < l.length) : (l.set i x).getD j d = if j = i then x else l.getD j d := by
  by_cases h : j = i
  · subst h
    simp [List.getD, hi]
  · rw [if_neg h]
    simp only [List.getD]
    rw [List.getElem?_set_ne (by omega)]
theorem hdrs_set (rows : List (List Nat)) (bs : List (Nat × Nat)) (hl : bs.length = rows.length) (i : Nat) (hi : i < rows.length) (r : List Nat) (b : Nat × Nat) :
    hdrs (rows.set i r) (bs.set i b) = (hdrs rows bs).set i (.slice (some ⟨b.1, 0, none⟩) r.length b.2) := by
  apply List.ext_getElem
  · simp [hdrs]
  · intro j h1 h2
    have hj : j < rows.length := by simpa [hdrs] using h1
    rw [List.getElem_set]
    simp only [hdrs, List.getElem_map, List.getElem_range, hdr, bk, cp, getD_set _ _ _ _ _ hi, getD_set bs i j b (0, 0) (by omega)]
    by_cases hij : i = j
    · subst hij; simp
    · rw [if_neg (fun e => hij e.symm), if_neg (fun e => hij e.symm), if_neg hij]
/-- A row replaced by a new one. -/
theorem GridAt.put (h : GridAt w B R cR rows bs) {i : Nat} (hi : i < rows.length) {g c : Nat} {r : List Nat} (hr : Row w B g c (nz r)) (hg : ∀ j, j < rows.length → bk bs j ≠ g) :
    GridAt (w.setCell ⟨R, i, none⟩ (.slice (some ⟨g, 0, none⟩) r.length c)) B R cR (rows.set i r) (bs.set i (g, c)) := by
  refine ⟨by simp [h.len], ?_, fun j hj => ?_, fun j k hj hk hjk => ?_⟩
  · rw [hdrs_set rows bs h.len i hi r (g, c), List.length_set]
    exact (World.ownsRow.stored h.out i _).1
  · rw [List.length_set] at hj
    unfold bk cp
    rw [getD_set _ _ _ _ _ hi, getD_set bs i j (g, c) (0, 0) (by rw [h.len]; exact hi)]
    by_cases hij : j = i
    · subst hij
      rw [if_pos rfl, if_pos rfl]
      exact hr.far (p := ⟨R, j, none⟩) (h.ne hr) _
    · rw [if_neg hij, if_neg hij]
      exact (h.row j hj).far (p := ⟨R, i, none⟩) (h.ne (h.row j hj)) _
  · rw [List.length_set] at hj hk
    unfold bk
    rw [getD_set bs i j (g, c) (0, 0) (by rw [h.len]; exact hi), getD_set bs i k (g, c) (0, 0) (by rw [h.len]; exact hi)]
    by_cases h1 : j = i
    · rw [if_pos h1, if_neg (by omega)]
      exact fun e => hg k hk e.symm
    · rw [if_neg h1]
      by_cases h2 : k = i
      · rw [if_pos h2]
        exact hg j hj
      · rw [if_neg h2]
        exact h.nd j k hj hk hjk
/-- A row changed in place. -/
theorem GridAt.turn (h : GridAt w B R cR rows bs) {i : Nat} (hi : i < rows.length) {r : List Nat} (hl : r.length = (rows.getD i []).length) (hr : Row w' B (bk bs i) (cp bs i) (nz r)) (hg : w.grownBy w' (some (bk bs i))) :
    GridAt w' B R cR (rows.set i r) bs := by
  have hne := h.ne (h.row i hi)
  refine ⟨by simp [h.len], ?_, fun j hj => ?_, fun j k hj hk hjk => h.nd j k (by simpa using hj) (by simpa using hk) hjk⟩
  · have e : hdrs (rows.set i r) bs = hdrs rows bs := by
      unfold hdrs
      rw [List.length_set]
      apply List.map_congr_left
      intro j _
      unfold hdr
      rw [getD_set _ _ _ _ _ hi]
      by_cases hij : j = i
      · subst hij; rw [if_pos rfl, hl]
      · rw [if_neg hij]
    rw [e, List.length_set]
    exact own_below h.out (hg.block R h.lt.2 (fun e => hne (by injection e with e; exact e.symm)))
  · rw [List.length_set] at hj
    rw [getD_set _ _ _ _ _ hi]
    by_cases hij : j = i
    · subst hij; rw [if_pos rfl]; exact hr
    · rw [if_neg hij]
      exact (h.row j hj).grown hg (fun e => h.nd j i hj hi hij (by injection e))
end
#print axioms GridAt.turn
end Go.Proofs.YtcfejnnhcdlffaaGreat
