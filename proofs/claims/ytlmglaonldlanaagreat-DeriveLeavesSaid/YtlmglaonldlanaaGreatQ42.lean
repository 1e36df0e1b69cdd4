/-
 Plain: elements as a type; what all rows share, canonical rows and combinations share; canonical rows have unit columns; the kernel's rows are orthogonal. space.Supported where one position lies outside and nothing is wrong. modify.positions, modify.keep where nothing is wrong. modify.Shorten of one position where nothing is wrong. grs.elements, grs.twice where the answer is yes, and no. grs.open where nothing is wrong. grs.generator.
-/
import Derived.Test.YtlmglaonldlanaaGreatQ41
import Derived.Test.YtlmglaonldlanaaGreatQ16
import Derived.Test.YtlmglaonldlanaaGreatQ29
import Derived.Test.YtlmglaonldlanaaGreatQ33
import Derived.Test.YtlmglaonldlanaaGreatQ01
import Derived.Test.YtlmglaonldlanaaGreatQ32
import Derived.Deep.DeepCutAuto
import Derived.Deep.AppendLies
namespace Go.Proofs.YtlmglaonldlanaaGreat
open Pln
namespace Al

/-- The elements of a field. -/
structure El (q : Nat) (O : Ops) (h : Fld q O) where
  n : Nat
  lt : n < q
section
variable {q : Nat} {O : Ops} {h : Fld q O}
theorem El.eq {x y : El q O h} (e : x.n = y.n) : x = y := by
  cases x
  cases y
  simp only at e
  subst e
  rfl
instance : Add (El q O h) := ⟨fun x y => ⟨O.add x.n y.n, h.addL _ _ x.lt y.lt⟩⟩
instance : Mul (El q O h) := ⟨fun x y => ⟨O.mul x.n y.n, h.mulL _ _ x.lt y.lt⟩⟩
instance : Neg (El q O h) := ⟨fun x => ⟨O.neg x.n, h.negL _ x.lt⟩⟩
instance : Zero (El q O h) := ⟨⟨0, by have := h.q1; omega⟩⟩
instance : One (El q O h) := ⟨⟨1, h.q1⟩⟩
theorem El.zn : (0 : El q O h).n = 0 := rfl
theorem El.fd : Fd (El q O h) where
  addC x y := El.eq (h.addC _ _ x.lt y.lt)
  addA x y z := El.eq (h.addA _ _ _ x.lt y.lt z.lt)
  addZ x := El.eq (h.addZ _ x.lt)
  addN x := El.eq (h.addN _ x.lt)
  mulC x y := El.eq (h.mulC _ _ x.lt y.lt)
  mulA x y z := El.eq (h.mulA _ _ _ x.lt y.lt z.lt)
  mulU x := El.eq (h.mulU _ x.lt)
  dist x y z := El.eq (h.dist _ _ _ x.lt y.lt z.lt)
  inv x hx := by
    have h0 : x.n ≠ 0 := fun e => hx (El.eq e)
    exact ⟨⟨O.inv x.n, h.invL _ x.lt h0⟩, El.eq (h.inv _ x.lt h0)⟩
  ne e := by
    have : (1 : Nat) = 0 := congrArg El.n e
    omega
/-- The element with a number. -/
def El.of (h : Fld q O) (x : Nat) : El q O h := if hx : x < q then ⟨x, hx⟩ else 0
theorem El.of_n {x : Nat} (hx : x < q) : (El.of h x).n = x := by
  unfold El.of
  rw [dif_pos hx]
theorem El.of_zero : El.of h 0 = 0 := El.eq (El.of_n (by have := h.q1; omega))
theorem El.of_one : El.of h 1 = 1 := El.eq (El.of_n h.q1)
theorem El.of_add {x y : Nat} (hx : x < q) (hy : y < q) : El.of h (O.add x y) = El.of h x + El.of h y := by
  refine El.eq ?_
  rw [El.of_n (h.addL _ _ hx hy)]
  show _ = O.add (El.of h x).n (El.of h y).n
  rw [El.of_n hx, El.of_n hy]
theorem El.of_mul {x y : Nat} (hx : x < q) (hy : y < q) : El.of h (O.mul x y) = El.of h x * El.of h y := by
  refine El.eq ?_
  rw [El.of_n (h.mulL _ _ hx hy)]
  show _ = O.mul (El.of h x).n (El.of h y).n
  rw [El.of_n hx, El.of_n hy]
theorem El.of_neg {x : Nat} (hx : x < q) : El.of h (O.neg x) = -El.of h x := by
  refine El.eq ?_
  rw [El.of_n (h.negL _ hx)]
  show _ = O.neg (El.of h x).n
  rw [El.of_n hx]
theorem El.of_ne {x : Nat} (hx : x < q) (h0 : x ≠ 0) : El.of h x ≠ 0 := fun e => h0 (by
  have := congrArg El.n e
  rwa [El.of_n hx] at this)
theorem El.of_inj {x y : Nat} (hx : x < q) (hy : y < q) (e : El.of h x = El.of h y) : x = y := by
  have := congrArg El.n e
  rwa [El.of_n hx, El.of_n hy] at this
theorem Fld.self (h : Fld q O) : OpsEq q O O where
  add x y hx hy := ⟨rfl, h.addL x y hx hy⟩
  mul x y hx hy := ⟨rfl, h.mulL x y hx hy⟩
  neg x hx := ⟨rfl, h.negL x hx⟩
  inv x hx h0 := ⟨rfl, h.invL x hx h0⟩
/-- The entries of a word. -/
def wd (h : Fld q O) (w : List Nat) (j : Nat) : El q O h := El.of h (w.getD j 0)
theorem qbY {l : List Nat} {j : Nat} (hj : j < l.length) : l.getD j 0 = l[j] := by simp [List.getD, hj]
theorem qdH {l : List Nat} (h : ∀ x ∈ l, x < q) (hq : 0 < q) (j : Nat) : l.getD j 0 < q := by
  by_cases hj : j < l.length
  · rw [qbY hj]
    exact h _ (List.getElem_mem hj)
  · rw [qcL (by omega)]
    exact hq
theorem wd_zero (n j : Nat) : wd h (List.replicate n 0) j = 0 := by
  unfold wd
  have : (List.replicate n 0).getD j 0 = 0 := by
    simp [List.getD, List.getElem?_replicate]
    split <;> rfl
  rw [this, El.of_zero]
theorem wd_addRow {v u : List Nat} {a : Nat} (ha : a < q) (hv : ∀ x ∈ v, x < q) (hu : ∀ x ∈ u, x < q) (hl : v.length = u.length) (j : Nat) : wd h (addRow O v a u) j = wd h v j + El.of h a * wd h u j := by
  have H := El.fd (h := h)
  unfold wd
  by_cases hj : j < v.length
  · have hj' : j < u.length := by omega
    have e : (addRow O v a u).getD j 0 = if u.getD j 0 = 0 then v.getD j 0 else O.add (v.getD j 0) (O.mul a (u.getD j 0)) := by
      rw [qbY hj, qbY hj', qbY (by unfold addRow; rw [List.length_zipWith]; omega)]
      unfold addRow
      rw [List.getElem_zipWith]
    have hx := qdH hv (by have := h.q1; omega) j
    have hy := qdH hu (by have := h.q1; omega) j
    rw [e]
    by_cases h0 : u.getD j 0 = 0
    · rw [if_pos h0, h0, El.of_zero, H.mulZ, H.zadd]
    · rw [if_neg h0, El.of_add hx (h.mulL _ _ ha hy), El.of_mul ha hy]
  · have e1 : v.getD j 0 = 0 := qcL (by omega)
    have e2 : u.getD j 0 = 0 := qcL (by omega)
    have e3 : (addRow O v a u).getD j 0 = 0 := qcL (by unfold addRow; rw [List.length_zipWith]; omega)
    rw [e1, e2, e3, El.of_zero, H.mulZ, H.addZ]
theorem wd_scale {u : List Nat} {a : Nat} (ha : a < q) (hu : ∀ x ∈ u, x < q) (j : Nat) : wd h (scaleRow O a u) j = El.of h a * wd h u j := by
  have H := El.fd (h := h)
  unfold wd
  by_cases hj : j < u.length
  · have e : (scaleRow O a u).getD j 0 = O.mul a (u.getD j 0) := by
      rw [qbY hj, qbY (by unfold scaleRow; rw [List.length_map]; exact hj)]
      unfold scaleRow
      rw [List.getElem_map]
    rw [e, El.of_mul ha (qdH hu (by have := h.q1; omega) j)]
  · have e2 : u.getD j 0 = 0 := qcL (by omega)
    have e3 : (scaleRow O a u).getD j 0 = 0 := qcL (by unfold scaleRow; rw [List.length_map]; omega)
    rw [e2, e3, El.of_zero, H.mulZ]
/-! ### What is closed under combinations -/
structure LinF (q : Nat) (O : Ops) (h : Fld q O) (Q : (Nat → El q O h) → Prop) : Prop where
  zero : Q fun _ => 0
  step : ∀ f g a, Q f → Q g → Q fun j => f j + a * g j
theorem LinF.addRow {Q : (Nat → El q O h) → Prop} (L : LinF q O h Q) {v u : List Nat} {a : Nat} (ha : a < q) (hv : ∀ x ∈ v, x < q) (hu : ∀ x ∈ u, x < q) (hl : v.length = u.length) (h1 : Q (wd h v)) (h2 : Q (wd h u)) : Q (wd h (addRow O v a u)) := by
  rw [show wd h (Pln.addRow O v a u) = fun j => wd h v j + El.of h a * wd h u j from funext fun j => wd_addRow ha hv hu hl j]
  exact L.step _ _ _ h1 h2
theorem LinF.scale {Q : (Nat → El q O h) → Prop} (L : LinF q O h Q) {u : List Nat} {a : Nat} (ha : a < q) (hu : ∀ x ∈ u, x < q) (h2 : Q (wd h u)) : Q (wd h (scaleRow O a u)) := by
  rw [show wd h (scaleRow O a u) = fun j => 0 + El.of h a * wd h u j from funext fun j => by rw [wd_scale ha hu, El.fd.addZ]]
  exact L.step _ _ _ L.zero h2
theorem mem_getD {rows : List (List Nat)} {i : Nat} (hi : i < rows.length) : rows.getD i [] ∈ rows := by
  have : rows.getD i [] = rows[i] := by simp [List.getD, hi]
  rw [this]
  exact List.getElem_mem hi
section
variable {Q : (Nat → El q O h) → Prop} {n cols : Nat}
theorem LinF.clear (L : LinF q O h Q) {rows : List (List Nat)} (hG : Grid q n cols rows) {c t : Nat} (hc : c < cols) (ht : t < n) (hr : ∀ r ∈ rows, Q (wd h r)) : ∀ i, i ≤ n → ∀ r ∈ clearGo O c t rows i, Q (wd h r)
  | 0, _ => hr
  | i + 1, hi => by
    have ih := LinF.clear L hG hc ht hr i (by omega)
    obtain ⟨_, g⟩ := qfA h.self hG hc ht i (by omega)
    unfold clearGo
    split
    · intro r hm
      rcases List.mem_or_eq_of_mem_set hm with hm | rfl
      · exact ih r hm
      · obtain ⟨r1, r2⟩ := g.row (i := i) (by omega)
        obtain ⟨t1, t2⟩ := g.row ht
        exact L.addRow (h.negL _ (g.at_ (by omega) hc)) r2 t2 (by rw [r1, t1]) (ih _ (mem_getD (by rw [g.1]; omega))) (ih _ (mem_getD (by rw [g.1]; omega)))
    · exact ih
theorem LinF.elim (L : LinF q O h Q) {rows : List (List Nat)} (hG : Grid q n cols rows) (hr : ∀ r ∈ rows, Q (wd h r)) : ∀ c, c ≤ cols → ∀ r ∈ (elGo O rows c).rows, Q (wd h r)
  | 0, _ => hr
  | c + 1, hc => by
    have ih := LinF.elim L hG hr c (by omega)
    obtain ⟨_, g⟩ := qfR h.self hG c (by omega)
    unfold elGo
    generalize elGo O rows c = s at *
    unfold elStep
    by_cases h1 : s.piv.length < s.rows.length
    · simp only [if_pos h1]
      have hf := qfC s.rows c (s.rows.length - s.piv.length) s.piv.length
      by_cases h2 : findRow s.rows c (s.rows.length - s.piv.length) s.piv.length = s.rows.length
      · simp only [if_pos h2]
        exact ih
      · simp only [if_neg h2]
        have hne := qeB s.rows c (s.rows.length - s.piv.length) s.piv.length (by omega)
        generalize findRow s.rows c (s.rows.length - s.piv.length) s.piv.length = k at *
        have hln := g.1
        have g1 := swap_grid g (i := s.piv.length) (j := k) (by omega) (by omega)
        have e1 : at2 (swapRows s.rows s.piv.length k) s.piv.length c ≠ 0 := by
          unfold at2 at hne ⊢
          rw [swap_at (by omega) (by omega)]
          exact hne
        have l1 : ∀ r ∈ swapRows s.rows s.piv.length k, Q (wd h r) := by
          intro r hm
          unfold swapRows at hm
          rcases List.mem_or_eq_of_mem_set hm with hm | rfl
          · rcases List.mem_or_eq_of_mem_set hm with hm | rfl
            · exact ih r hm
            · exact ih _ (mem_getD (by omega))
          · exact ih _ (mem_getD (by omega))
        generalize swapRows s.rows s.piv.length k = sr at *
        obtain ⟨_, g2⟩ := norm_eq h.self g1 (i := s.piv.length) (by omega) (by omega) e1
        have l2 : ∀ r ∈ normRow O sr s.piv.length c, Q (wd h r) := by
          unfold normRow
          split
          · exact l1
          · intro r hm
            rcases List.mem_or_eq_of_mem_set hm with hm | rfl
            · exact l1 r hm
            · obtain ⟨r1, r2⟩ := g1.row (i := s.piv.length) (by omega)
              exact L.scale (h.invL _ (g1.at_ (by omega) (by omega)) e1) r2 (l1 _ (mem_getD (by rw [g1.1]; omega)))
        rw [hln]
        exact LinF.clear L g2 (by omega) (by omega) l2 n (Nat.le_refl _)
    · simp only [if_neg h1]
      exact ih
theorem LinF.canon (L : LinF q O h Q) {rows : List (List Nat)} (hG : Grid q n cols rows) (hr : ∀ r ∈ rows, Q (wd h r)) : ∀ r ∈ canonM O rows cols, Q (wd h r) := by
  intro r hm
  unfold canonM at hm
  exact L.elim hG hr cols (Nat.le_refl _) r (List.mem_of_mem_take hm)
theorem LinF.comb (L : LinF q O h Q) {rows : List (List Nat)} {n : Nat} (hr : ∀ r ∈ rows, Dv.Ok q n r ∧ Q (wd h r)) : ∀ (msg out : List Nat), (∀ x ∈ msg, x < q) → Dv.Ok q n out → Q (wd h out) → Q (wd h (Dv.combO O out msg rows)) ∧ Dv.Ok q n (Dv.combO O out msg rows) := by
  induction rows with
  | nil =>
    intro msg out _ ho hq
    cases msg <;> exact ⟨hq, ho⟩
  | cons r rs ih =>
    intro msg out hm ho hq
    cases msg with
    | nil => exact ⟨hq, ho⟩
    | cons x xs =>
      unfold Dv.combO
      obtain ⟨⟨r1, r2⟩, r3⟩ := hr r List.mem_cons_self
      have ih2 := ih (fun y hy => hr y (List.mem_cons_of_mem _ hy)) xs
      have hx := hm x List.mem_cons_self
      by_cases h0 : x = 0
      · rw [if_pos h0]
        exact ih2 out (fun y hy => hm y (List.mem_cons_of_mem _ hy)) ho hq
      · rw [if_neg h0]
        exact ih2 _ (fun y hy => hm y (List.mem_cons_of_mem _ hy)) ⟨by unfold Pln.addRow; rw [List.length_zipWith, ho.1, r1, Nat.min_self], (addRow_eq h.self hx ho.2 r2).2⟩ (L.addRow hx ho.2 r2 (by rw [ho.1, r1]) hq r3)
end
/-! ### Canonical rows have unit columns -/
def UnitC (r : Nat) (rows : List (List Nat)) (piv : List Nat) : Prop := ∀ i, i < rows.length → ∀ k, k < r → at2 rows i (piv.getD k 0) = if i = k then 1 else 0
theorem at2_wd {rows : List (List Nat)} (i c : Nat) : El.of h (at2 rows i c) = wd h (rows.getD i []) c := rfl
theorem qfK {rows : List (List Nat)} {i : Nat} (hi : i < rows.length) (r : List Nat) (k c : Nat) : at2 (rows.set i r) k c = if k = i then r.getD c 0 else at2 rows k c := by
  unfold at2
  by_cases e : k = i
  · subst e
    rw [if_pos rfl]
    simp [List.getD, hi]
  · rw [if_neg e]
    simp only [List.getD]
    rw [List.getElem?_set_ne (fun e2 => e e2.symm)]
theorem addRow_at {v u : List Nat} {a : Nat} {j : Nat} (hj : j < v.length) (hl : v.length = u.length) : (addRow O v a u).getD j 0 = if u.getD j 0 = 0 then v.getD j 0 else O.add (v.getD j 0) (O.mul a (u.getD j 0)) := by
  rw [qbY hj, qbY (show j < u.length by omega), qbY (by unfold addRow; rw [List.length_zipWith]; omega)]
  unfold addRow
  rw [List.getElem_zipWith]
/-- The rows are cleared: column c, and no column where the pivot row is zero is changed. -/
theorem clear_at (h : Fld q O) {n cols : Nat} {rows : List (List Nat)} (hG : Grid q n cols rows) {c t : Nat} (hc : c < cols) (ht : t < n) (h1 : at2 rows t c = 1) : ∀ i, i ≤ n →
    (∀ k, k < n → ∀ j, j < cols → at2 rows t j = 0 → at2 (clearGo O c t rows i) k j = at2 rows k j) ∧ (∀ j, at2 (clearGo O c t rows i) t j = at2 rows t j) ∧ (∀ k, k < i → k ≠ t → at2 (clearGo O c t rows i) k c = 0) ∧ (∀ k, i ≤ k → ∀ j, at2 (clearGo O c t rows i) k j = at2 rows k j)
  | 0, _ => ⟨fun _ _ _ _ _ => rfl, fun _ => rfl, fun k hk => by omega, fun _ _ _ => rfl⟩
  | i + 1, hi => by
    have hq := h.q1
    obtain ⟨i1, i2, i3, i4⟩ := clear_at h hG hc ht h1 i (by omega)
    obtain ⟨_, g⟩ := qfA h.self hG hc ht i (by omega)
    unfold clearGo
    split
    · rename_i hne
      obtain ⟨hit, hx⟩ := hne
      generalize clearGo O c t rows i = R at *
      have hil : i < R.length := by rw [g.1]; omega
      obtain ⟨r1, r2⟩ := g.row (i := i) (by omega)
      obtain ⟨t1, t2⟩ := g.row ht
      have hadd : ∀ j, j < cols → (addRow O (R.getD i []) (O.neg (at2 R i c)) (R.getD t [])).getD j 0 = if at2 R t j = 0 then at2 R i j else O.add (at2 R i j) (O.mul (O.neg (at2 R i c)) (at2 R t j)) := fun j hj => addRow_at (by omega) (by omega)
      refine ⟨fun k hk j hj h0 => ?_, fun j => ?_, fun k hk hkt => ?_, fun k hk j => ?_⟩
      · rw [qfK hil]
        split
        · rename_i e
          subst e
          rw [hadd j hj, if_pos (by rw [i2 j]; exact h0)]
          exact i1 k hk j hj h0
        · exact i1 k hk j hj h0
      · rw [qfK hil, if_neg (fun e => hit e.symm)]
        exact i2 j
      · rw [qfK hil]
        split
        · rename_i e
          subst e
          rw [hadd c hc, i2 c, h1, if_neg (by omega)]
          have hv := g.at_ (i := k) (c := c) (by omega) hc
          rw [h.mulC _ _ (h.negL _ hv) h.q1, h.mulU _ (h.negL _ hv), h.addN _ hv]
        · exact i3 k (by omega) hkt
      · rw [qfK hil, if_neg (by omega)]
        exact i4 k (by omega) j
    · rename_i hne
      refine ⟨i1, i2, fun k hk hkt => ?_, fun k hk j => i4 k (by omega) j⟩
      by_cases e : k = i
      · subst e
        refine Classical.byContradiction fun hx => hne ⟨hkt, hx⟩
      · exact i3 k (by omega) hkt
theorem unit_elim (h : Fld q O) {n cols : Nat} {rows : List (List Nat)} (hG : Grid q n cols rows) : ∀ c, c ≤ cols → UnitC (elGo O rows c).piv.length (elGo O rows c).rows (elGo O rows c).piv
  | 0, _ => fun i _ k hk => by simp [elGo] at hk
  | c + 1, hc => by
    have ih := unit_elim h hG c (by omega)
    obtain ⟨_, g⟩ := qfR h.self hG c (by omega)
    have hpl := qdK O rows c
    have hq := h.q1
    unfold elGo
    generalize elGo O rows c = s at *
    unfold elStep
    by_cases h1 : s.piv.length < s.rows.length
    · simp only [if_pos h1]
      have hf := qfC s.rows c (s.rows.length - s.piv.length) s.piv.length
      by_cases h2 : findRow s.rows c (s.rows.length - s.piv.length) s.piv.length = s.rows.length
      · simp only [if_pos h2]
        exact ih
      · simp only [if_neg h2]
        have hne := qeB s.rows c (s.rows.length - s.piv.length) s.piv.length (by omega)
        generalize findRow s.rows c (s.rows.length - s.piv.length) s.piv.length = k at *
        have hln := g.1
        have hpv : ∀ a, a < s.piv.length → s.piv.getD a 0 < cols := fun a ha => by
          have h3 := hpl (s.piv.getD a 0) (by rw [qbY ha]; exact List.getElem_mem ha)
          omega
        have g1 := swap_grid g (i := s.piv.length) (j := k) (by omega) (by omega)
        have e1 : at2 (swapRows s.rows s.piv.length k) s.piv.length c ≠ 0 := by
          unfold at2 at hne ⊢
          rw [swap_at (by omega) (by omega)]
          exact hne
        have u1 : UnitC s.piv.length (swapRows s.rows s.piv.length k) s.piv := by
          intro i hi a ha
          have hi' : i < s.rows.length := by unfold swapRows at hi; simpa using hi
          have z1 := ih k (by omega) a ha
          have z2 := ih s.piv.length (by omega) a ha
          rw [if_neg (by omega)] at z1 z2
          unfold swapRows
          rw [qfK (by simp; omega), qfK (by omega)]
          by_cases ek : i = k
          · rw [if_pos ek, if_neg (by omega)]
            exact z2
          · rw [if_neg ek]
            by_cases es : i = s.piv.length
            · rw [if_pos es, if_neg (by omega)]
              exact z1
            · rw [if_neg es]
              exact ih i hi' a ha
        have hsl : (swapRows s.rows s.piv.length k).length = n := by rw [g1.1]
        generalize swapRows s.rows s.piv.length k = sr at *
        obtain ⟨_, g2⟩ := norm_eq h.self g1 (i := s.piv.length) (by omega) (by omega) e1
        have hnat : ∀ i, i < n → ∀ j, j < cols → at2 (normRow O sr s.piv.length c) i j = if i = s.piv.length then (if at2 sr s.piv.length c = 1 then at2 sr i j else O.mul (O.inv (at2 sr s.piv.length c)) (at2 sr i j)) else at2 sr i j := by
          intro i hi j hj
          unfold normRow
          by_cases e : at2 sr s.piv.length c = 1
          · rw [if_pos e]
            by_cases e2 : i = s.piv.length
            · rw [if_pos e2, if_pos e]
            · rw [if_neg e2]
          · rw [if_neg e, qfK (by omega)]
            by_cases e2 : i = s.piv.length
            · rw [if_pos e2, if_pos e2, if_neg e]
              obtain ⟨r1, _⟩ := g1.row (i := s.piv.length) (by omega)
              rw [qbY (by unfold scaleRow; rw [List.length_map, r1]; exact hj)]
              unfold scaleRow
              rw [List.getElem_map, ← qbY]
              rw [e2]
              rfl
            · rw [if_neg e2, if_neg e2]
        have n1 : at2 (normRow O sr s.piv.length c) s.piv.length c = 1 := by
          rw [hnat _ (by omega) c (by omega), if_pos rfl]
          by_cases e : at2 sr s.piv.length c = 1
          · rw [if_pos e]
            exact e
          · rw [if_neg e]
            have hv := g1.at_ (i := s.piv.length) (c := c) (by omega) (by omega)
            rw [h.mulC _ _ (h.invL _ hv e1) hv, h.inv _ hv e1]
        have n2 : UnitC s.piv.length (normRow O sr s.piv.length c) s.piv := by
          intro i hi a ha
          rw [g2.1] at hi
          have z := u1 i (by omega) a ha
          rw [hnat i hi _ (hpv a ha)]
          by_cases e : i = s.piv.length
          · have hia : ¬ i = a := by omega
            rw [if_neg hia] at z
            rw [if_pos e, if_neg hia]
            by_cases e2 : at2 sr s.piv.length c = 1
            · rw [if_pos e2]
              exact z
            · rw [if_neg e2, z]
              have hv := g1.at_ (i := s.piv.length) (c := c) (by omega) (by omega)
              rw [h.mulC _ _ (h.invL _ hv e1) (by omega), h.mulZ _ (h.invL _ hv e1)]
          · rw [if_neg e]
            exact z
        generalize normRow O sr s.piv.length c = nr at *
        obtain ⟨c1, c2, c3, _⟩ := clear_at h g2 (t := s.piv.length) (by omega : c < cols) (by omega) n1 n (Nat.le_refl _)
        obtain ⟨_, g3⟩ := qfA h.self g2 (c := c) (t := s.piv.length) (by omega) (by omega) n (Nat.le_refl _)
        rw [hln]
        intro i hi a ha
        show at2 (clearGo O c s.piv.length nr n) i ((s.piv ++ [c]).getD a 0) = _
        have hi' : i < n := by rw [← g3.1]; exact hi
        have ha' : a < s.piv.length + 1 := by simpa using ha
        by_cases e : a = s.piv.length
        · rw [show (s.piv ++ [c]).getD a 0 = c by rw [e]; simp [List.getD]]
          by_cases e2 : i = a
          · rw [if_pos e2, e2, e, c2 c, n1]
          · rw [if_neg e2]
            exact c3 i hi' (by omega)
        · rw [show (s.piv ++ [c]).getD a 0 = s.piv.getD a 0 by simp only [List.getD]; rw [List.getElem?_append_left (by omega)]]
          have z := n2 s.piv.length (by rw [g2.1]; omega) a (by omega)
          rw [if_neg (by omega)] at z
          rw [c1 i hi' _ (hpv a (by omega)) z]
          exact n2 i (by rw [g2.1]; omega) a (by omega)
    · simp only [if_neg h1]
      exact ih
theorem unit_canon (h : Fld q O) {n cols : Nat} {rows : List (List Nat)} (hG : Grid q n cols rows) {i k : Nat} (hi : i < (elGo O rows cols).piv.length) (hk : k < (elGo O rows cols).piv.length) : at2 (canonM O rows cols) i ((elGo O rows cols).piv.getD k 0) = if i = k then 1 else 0 := by
  unfold at2
  rw [qcN O rows cols i hi]
  exact unit_elim h hG cols (Nat.le_refl _) i (by have := (qbW (O := O) rows cols).2; rw [qcW]; omega) k hk
end
end Al
end Go.Proofs.YtlmglaonldlanaaGreat
namespace Go.Proofs.YtlmglaonldlanaaGreat
open Go.RowKit Pln
end Go.Proofs.YtlmglaonldlanaaGreat
namespace Go.Proofs.YtlmglaonldlanaaGreat
open Go.RowKit Pln
section
variable {P:Program} {S:World->Prop} {K:Act->World->Prop} {o:Oper} {r:List (Nat × Oper)} {a:Act} {w:World}
end
end Go.Proofs.YtlmglaonldlanaaGreat
namespace Go.Proofs.YtlmglaonldlanaaGreat
open Go.RowKit Pln
structure BoxK (w:World) (a r:List Value) (W:World):Prop where
 below:Below w.heap.size w W
 size:w.heap.size+1<W.heap.size
 k0:W.heap[w.heap.size]?=some (.cells a.toArray 32 (0,0))
 k1:W.heap[w.heap.size+1]?=some (.cells r.toArray 32 (0,0))
section
variable {w:World} {a r:List Value} {W W':World}
end
end Go.Proofs.YtlmglaonldlanaaGreat
namespace Go.Proofs.YtlmglaonldlanaaGreat
open Go.RowKit Pln
end Go.Proofs.YtlmglaonldlanaaGreat
namespace Go.Proofs.YtlmglaonldlanaaGreat
open Go.RowKit Pln
theorem grsSize:(Tryz.prog.info? 87).map (·.size)=some 6:=by kernel_rfl
end Go.Proofs.YtlmglaonldlanaaGreat
namespace Go.Proofs.YtlmglaonldlanaaGreat
open Go.RowKit Pln
section
variable {P:Program} {S:World->Prop} {K:Act->World->Prop} {o:Oper} {r:List (Bool × Oper)} {a:Act} {w:World}
theorem mix_append_lies (hg:o.guard=none) (s x:Operand) (t:TypeId)
 (ho:o.op=.call { callee:=.builtin .append,args:=#[s,x],argTypes:=#[t,t] })
 (base:Nat) (e:TypeId) (i:TypeInfo) (z:Value) (size bytes:Nat) (ht:P.underlying t=some (.slice e)) (hi:P.info? e=some i) (hz:i.zero=some z)
 (hsize:i.size=size) (hby:i.bytes=bytes) (hzs:z.cells.size=size) (hsz:0<size)
 (v:Value) (n:Nat) (xs:List Value) (hs:a.eval s=v) (hown:w.ownsRow base e size v n xs)
 (ad:Addr) (m c:Nat) (news:List Value) (hx:a.eval x=.slice (some ad) m c) (hl:news.length=m*size) (hnews:∀ j u,news[j]?=some u->w.cell? (ad.add j)=some u) (h1:∀ u∈news,u.oneCell'=true)
 (hm:0<m) (h63:n+m<=maxLen) (hbytes:(n+m)*bytes<=140737488355328) (hbase:base<=w.heap.size)
 (h:∀ g cap w',w'.ownsRow base e size (.slice (some ⟨g,0,none⟩) (n+m) cap) (n+m) (xs++news)->w.grownBy w' v.ownBlock->(v.ownBlock=some g\/g=w.heap.size)->g<w'.heap.size->S w'/\wpMix P S K r (a.put o.dst (.slice (some ⟨g,0,none⟩) (n+m) cap)) w'):wpMix P S K ((false,o) :: r) a w:=by
 obtain ⟨g,cap,w',hr,h2,h3,h4,h5⟩:=run_append_lies (P:=P) w t o.type base e i z size bytes ht hi hz hsize hby hzs hsz v n xs hown ad m c news hl hnews h1 hm h63 hbytes hbase w.heap.size rfl
 obtain ⟨hS,hK⟩:=h g cap w' h2 h3 h4 h5
 refine qfB hg ?_ hS hK
 unfold execOp
 simp only [ho,resolve,invoke,builtin,Sem.run_bind,Sem.run_pure,Result.andThen_ok,List.map_toArray,List.map_cons,List.map_nil,hs,hx,hr]
end
def rowG (O:Ops) (M L:List Nat):Nat->List Nat
 | 0=>M
 | k+1=>List.zipWith O.mul (rowG O M L k) L
theorem rowG_len (O:Ops) (M L:List Nat) (h:M.length=L.length):∀ k,(rowG O M L k).length=L.length
 | 0=>h
 | k+1=>by simp [rowG,rowG_len O M L h k]
theorem rowG_lt {q:Nat} {O:Ops} (E:OpsEq q O O) {M L:List Nat} (hM:∀ x∈M,x<q) (hL:∀ x∈L,x<q):∀ k,∀ x∈rowG O M L k,x<q
 | 0,x,hx=>hM x hx
 | k + 1,x,hx => by
   unfold rowG at hx
   obtain ⟨i,hi,rfl⟩:=List.mem_iff_getElem.1 hx
   rw [List.getElem_zipWith]
   simp at hi
   exact (E.mul _ _ (rowG_lt E hM hL k _ (List.getElem_mem _)) (hL _ (List.getElem_mem _))).2
def rowH (O:Ops) (v L:List Nat) (j:Nat):List Nat:=List.zipWith O.mul (v.take j) (L.take j)++v.drop j
theorem rowH_len (O:Ops) (v L:List Nat) (h:v.length=L.length) (j:Nat) (hj:j<=v.length):(rowH O v L j).length=v.length:=by
 simp [rowH];omega
theorem rowH_at (O:Ops) (v L:List Nat) (h:v.length=L.length) (j:Nat) (hj:j<v.length):(rowH O v L j).getD j 0=v.getD j 0:=by
 have hl:(List.zipWith O.mul (v.take j) (L.take j)).length=j:=by simp;omega
 unfold rowH
 simp only [List.getD]
 rw [List.getElem?_append_right (by omega),hl,Nat.sub_self,List.getElem?_drop,Nat.add_zero]
theorem rowH_set (O:Ops) (v L:List Nat) (h:v.length=L.length) (j:Nat) (hj:j<v.length):(rowH O v L j).set j (O.mul (v.getD j 0) (L.getD j 0))=rowH O v L (j+1):=by
 have hl:(List.zipWith O.mul (v.take j) (L.take j)).length=j:=by simp;omega
 have hj':j<L.length:=by omega
 unfold rowH
 rw [List.set_append_right _ _ (by omega),hl,Nat.sub_self,List.drop_eq_getElem_cons hj,List.set_cons_zero,List.take_succ_eq_append_getElem hj,List.take_succ_eq_append_getElem hj',List.zipWith_append (by simp;omega)]
 simp [List.getD,hj,hj']
theorem rowH_end (O:Ops) (v L:List Nat) (h:v.length=L.length):rowH O v L v.length=List.zipWith O.mul v L:=by
 unfold rowH
 rw [List.take_length,List.drop_length,List.append_nil,h,List.take_length]
def genG (O:Ops) (M L:List Nat) (K:Nat):List (List Nat):=(List.range K).map (rowG O M L)
theorem genG_len (O:Ops) (M L:List Nat) (K:Nat):(genG O M L K).length=K:=by simp [genG]
theorem genG_at (O:Ops) (M L:List Nat) (K k:Nat) (hk:k<K):(genG O M L K).getD k []=rowG O M L k:=by simp [genG,List.getD,hk]
structure GS (w:World) (b B g0 c0:Nat) (n:Int) (rows:List (List Nat)) (k:Nat) (v:Value) (bs:List (Nat × Nat)) (row:List Nat) (W:World):Prop where
 below:Below w.heap.size w W
 lo:w.heap.size<=b/\w.heap.size<=g0/\b<B/\g0<B/\b≠g0/\B<=W.heap.size
 box:W.heap[b]?=some (.cells [.int .i64 n,v].toArray 54 (0,0))
 grid:LGrid W B v rows bs k
 run:Row W w.heap.size g0 c0 (nz row)
section
variable {w:World} {b B g0 c0:Nat} {n:Int} {rows:List (List Nat)} {k:Nat} {v:Value} {bs:List (Nat × Nat)} {row:List Nat} {W W':World}
theorem GS.grow (h:GS w b B g0 c0 n rows k v bs row W) (hb:Below W.heap.size W W'):GS w b B g0 c0 n rows k v bs row W':=by
 obtain ⟨l1,l2,l3,l4,l5,l6⟩:=h.lo
 have hs:=hb.size
 exact ⟨h.below.trans (hb.mono h.below.size),⟨l1,l2,l3,l4,l5,by omega⟩,(hb.block _ (by omega)).trans h.box,h.grid.grow hb,h.run.below hb h.run.lt.2⟩
theorem GS.set (h:GS w b B g0 c0 n rows k v bs row W) (j x:Nat):GS w b B g0 c0 n rows k v bs (row.set j x) (W.setCell ⟨g0,j,none⟩ (.int .i64 (x:Int))):=by
 obtain ⟨l1,l2,l3,l4,l5,l6⟩:=h.lo
 refine ⟨h.below.setCell (p:=⟨g0,j,none⟩) l2 _,⟨l1,l2,l3,l4,l5,by simpa using l6⟩,(Below.heap_setCell W ⟨g0,j,none⟩ _ b l5).trans h.box,h.grid.set (p:=⟨g0,j,none⟩) l4 _,?_⟩
 rw [<- qbX]
 exact h.run.set j _
theorem GS.step {w1 w2:World} {g c:Nat} {o:Obj} {v':Value} (h:GS w b B g0 c0 n rows k v bs row W) (hk:k<rows.length) (hb:Below W.heap.size W w1) (hr:Row w1 W.heap.size g c (nz (rows.getD k [])))
 (hown:w2.ownsRow B 23 1 v' (k+1) ((List.range k).map (hdr rows bs)++[.slice (some ⟨g,0,none⟩) (rows.getD k []).length c])) (hg:(w1.alloc o).grownBy w2 v.ownBlock) (hat:v'.ownBlock=v.ownBlock\/v'.ownBlock=some (w1.alloc o).heap.size) :
 GS w b B g0 c0 n rows (k+1) v' (bs++[(g,c)]) row (w2.setCell ⟨b,1,none⟩ v'):=by
 obtain ⟨l1,l2,l3,l4,l5,l6⟩:=h.lo
 have h1:=hb.size
 have h2:w1.heap.size<w2.heap.size:=by have:=hg.size;simp at this;omega
 have hne:∀ x,x<B->some x≠v.ownBlock:=fun x hx e=>by have:=(h.grid.out.lt _ e.symm).1;omega
 have hgl:=h.grid.step hk l6 hb hr hown hg hat
 have hblk:∀ x,x<B->w2.heap[x]?=W.heap[x]?:=fun x hx=>by
  rw [hg.block x (by simp;omega) (hne x hx),heap_alloc_old _ _ (by omega),hb.block _ (by omega)]
 have hbx:w2.heap[b]?=some (.cells [.int .i64 n,v].toArray 54 (0,0)):=(hblk b l3).trans h.box
 have hbl:Below w.heap.size w w2:=((h.below.trans (hb.mono (by omega))).alloc (by omega) _).grown hg (by simp;omega) (fun j hj=>by have:=(h.grid.out.lt _ hj).1;omega)
 have hrun:Row w2 w.heap.size g0 c0 (nz row):=((h.run.below hb h.run.lt.2).alloc o).grown hg (hne g0 l4)
 exact ⟨hbl.setCell (p:=⟨b,1,none⟩) l1 _,⟨l1,l2,l3,l4,l5,by simp;omega⟩,by have:=qaT hbx 1 v';simpa using this,hgl.set (p:=⟨b,1,none⟩) l3 _,hrun.far (p:=⟨b,1,none⟩) (Ne.symm l5) _⟩
theorem GS.cell1 (h:GS w b B g0 c0 n rows k v bs row W):W.cell? ⟨b,1,none⟩=some v:=cell_of_row _ _ 1 _ _ _ h.box
theorem GS.range (h:GS w b B g0 c0 n rows k v bs row W):W.rangeAt b 0 [.int .i64 n,v]:=qaC h.box
theorem GS.own {w1:World} (h:GS w b B g0 c0 n rows k v bs row W) (hb:Below W.heap.size W w1) (o:Obj):(w1.alloc o).ownsRow B 23 1 v k ((List.range k).map (hdr rows bs)) :=
 World.ownsRow.alloc (h.grid.grow hb).out _
end
end Go.Proofs.YtlmglaonldlanaaGreat
