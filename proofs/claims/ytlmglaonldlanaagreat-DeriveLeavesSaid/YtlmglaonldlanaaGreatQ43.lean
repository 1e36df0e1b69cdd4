/-
 Plain: the kernel is orthogonal; columns of the parity-check matrix bound weights; Vandermonde matrices bound weights. derive.columns at any code: what a true answer says.
-/
import Derived.Test.YtlmglaonldlanaaGreatQ42
import Derived.Test.YtlmglaonldlanaaGreatQ27
import Derived.Test.YtlmglaonldlanaaGreatQ41
import Derived.Test.YtlmglaonldlanaaGreatQ33
namespace Go.Proofs.YtlmglaonldlanaaGreat
open Pln
namespace Al

section
variable {q : Nat} {O : Ops} {h : Fld q O}
theorem wd_set {v : List Nat} {p y j : Nat} (hp : p < v.length) : wd h (v.set p y) j = if j = p then El.of h y else wd h v j := by
  unfold wd
  by_cases e : j = p
  · subst e
    rw [if_pos rfl]
    simp [List.getD, hp]
  · rw [if_neg e]
    simp only [List.getD]
    rw [List.getElem?_set_ne (fun e2 => e e2.symm)]
theorem dot_set {n p y : Nat} {f : Nat → El q O h} {v : List Nat} (hv : v.length = n) (hp : p < n) (h0 : wd h v p = 0) : sm n (fun j => f j * wd h (v.set p y) j) = sm n (fun j => f j * wd h v j) + f p * El.of h y := by
  have H := El.fd (h := h)
  have e : sm n (fun j => f j * wd h (v.set p y) j) = sm n (fun j => f j * wd h v j + (if j = p then f p * El.of h y else 0)) := by
    refine H.sm_congr fun j hj => ?_
    rw [wd_set (by omega)]
    by_cases ej : j = p
    · subst ej
      rw [if_pos rfl, if_pos rfl, h0, H.mulZ, H.addZ]
    · rw [if_neg ej, if_neg ej, H.zadd]
  rw [e, H.sm_add]
  congr 1
  rw [H.sm_one hp]
  · rw [if_pos rfl]
  · intro j _ hj
    rw [if_neg hj]
theorem kerK_at {rows : List (List Nat)} {piv : List Nat} {cols c j : Nat} (hjc : j ≠ c) : ∀ t, (∀ k, k < t → piv.getD k 0 ≠ j) → wd h (kerK O rows piv cols c t) j = 0
  | 0, _ => by
    unfold kerK wd
    have : ((List.replicate cols 0).set c 1).getD j 0 = 0 := by
      simp only [List.getD]
      rw [List.getElem?_set_ne (fun e => hjc e.symm), List.getElem?_replicate]
      split <;> rfl
    rw [this, El.of_zero]
  | t + 1, hk => by
    have ih := kerK_at (rows := rows) (piv := piv) (cols := cols) hjc t (fun k hk2 => hk k (by omega))
    have hne := hk t (by omega)
    unfold kerK
    unfold wd at ih ⊢
    have e : ((kerK O rows piv cols c t).set (piv.getD t 0) (O.neg ((rows.getD t []).getD c 0))).getD j 0 = (kerK O rows piv cols c t).getD j 0 := by
      simp only [List.getD] at hne ⊢
      rw [List.getElem?_set_ne hne]
    rw [e, ih]
theorem ker_dot {cr : List (List Nat)} {piv : List Nat} {r cols c : Nat} (hG : Grid q r cols cr) (hu : ∀ i k, i < r → k < r → at2 cr i (piv.getD k 0) = if i = k then 1 else 0) (hc : c < cols) (hcp : ∀ k, k < r → piv.getD k 0 ≠ c) (hpv : ∀ k, k < r → piv.getD k 0 < cols) {i : Nat} (hi : i < r) :
    ∀ t, t ≤ r → sm cols (fun j => wd h (cr.getD i []) j * wd h (kerK O cr piv cols c t) j) = wd h (cr.getD i []) c + sm t (fun k => wd h (cr.getD i []) (piv.getD k 0) * -wd h (cr.getD k []) c)
  | 0, _ => by
    have H := El.fd (h := h)
    rw [H.sm_one hc]
    · have : wd h (kerK O cr piv cols c 0) c = 1 := by
        unfold kerK wd
        have : ((List.replicate cols 0).set c 1).getD c 0 = 1 := by simp [List.getD, hc]
        rw [this, El.of_one]
      rw [this, H.umul]
      exact (H.zadd _).symm
    · intro j _ hj
      rw [kerK_at hj 0 (fun k hk => by omega), H.mulZ]
  | t + 1, ht => by
    have H := El.fd (h := h)
    have ih := ker_dot hG hu hc hcp hpv hi t (by omega)
    have hd : ∀ k, k < t → piv.getD k 0 ≠ piv.getD t 0 := fun k hk e => by
      have h1 := hu k k (by omega) (by omega)
      have h2 := hu k t (by omega) (by omega)
      rw [if_pos rfl] at h1
      rw [if_neg (by omega), ← e, h1] at h2
      omega
    have hx := hG.at_ (i := t) (c := c) (by omega) hc
    show sm cols (fun j => wd h (cr.getD i []) j * wd h ((kerK O cr piv cols c t).set (piv.getD t 0) (O.neg ((cr.getD t []).getD c 0))) j) = wd h (cr.getD i []) c + (sm t (fun k => wd h (cr.getD i []) (piv.getD k 0) * -wd h (cr.getD k []) c) + wd h (cr.getD i []) (piv.getD t 0) * -wd h (cr.getD t []) c)
    rw [dot_set (kerK_len _ _ _ _ _ _) (hpv t (by omega)) (kerK_at (hcp t (by omega)) t hd), ih, H.addA]
    congr 2
    rw [El.of_neg (by exact hx)]
    rfl
/-- The rows of the kernel are orthogonal to the canonical rows. -/
theorem ker_orth {n cols : Nat} {rows : List (List Nat)} (hG : Grid q n cols rows) : ∀ u ∈ kerM O rows cols, ∀ g ∈ canonM O rows cols, sm cols (fun j => wd h g j * wd h u j) = 0 := by
  have H := El.fd (h := h)
  have E := h.self
  have hcg := qdC E hG
  have hkg := qeP (piv := (elGo O rows cols).piv) E h.q1 hcg rfl
  have L : LinF q O h fun f => ∀ g ∈ canonM O rows cols, sm cols (fun j => wd h g j * f j) = 0 := by
    refine ⟨fun g _ => H.sm_zero fun j _ => H.mulZ _, fun f g a hf hg u hu => ?_⟩
    have e : sm cols (fun j => wd h u j * (f j + a * g j)) = sm cols (fun j => wd h u j * f j + a * (wd h u j * g j)) := H.sm_congr fun j _ => by
      rw [H.dist, ← H.mulA, ← H.mulA, H.mulC a]
    rw [e, H.sm_lin, hf u hu, hg u hu, H.mulZ, H.addZ]
  unfold kerM
  refine L.canon hkg fun u hu g hg => ?_
  unfold kerRows at hu
  obtain ⟨c, hc, rfl⟩ := List.mem_map.1 hu
  have hc' := List.mem_filter.1 hc
  have hcl : c < cols := by simpa using hc'.1
  have hcp : c ∉ (elGo O rows cols).piv := by
    have := hc'.2
    simpa using this
  obtain ⟨i, hi, rfl⟩ := List.mem_iff_getElem.1 hg
  have hil : i < (elGo O rows cols).piv.length := by rw [← qbH]; exact hi
  have e : (canonM O rows cols)[i] = (canonM O rows cols).getD i [] := by simp [List.getD, hi]
  have hpm : ∀ k, k < (elGo O rows cols).piv.length → (elGo O rows cols).piv.getD k 0 ∈ (elGo O rows cols).piv := fun k hk => by
    rw [qbY hk]
    exact List.getElem_mem hk
  rw [e, ker_dot hcg (fun i k hi hk => unit_canon h hG hi hk) hcl (fun k hk e => hcp (by rw [← e]; exact hpm k hk)) (fun k hk => qdK O rows cols _ (hpm k hk)) hil _ (Nat.le_refl _)]
  have hone : sm (elGo O rows cols).piv.length (fun k => wd h ((canonM O rows cols).getD i []) ((elGo O rows cols).piv.getD k 0) * -wd h ((canonM O rows cols).getD k []) c) = -wd h ((canonM O rows cols).getD i []) c := by
    rw [H.sm_one hil]
    · rw [← at2_wd, unit_canon h hG hil hil, if_pos rfl, El.of_one, H.mulU]
    · intro k hk hki
      rw [← at2_wd, unit_canon h hG hil hk, if_neg (fun e => hki e.symm), El.of_zero, H.zmul]
  rw [hone, H.addN]
/-! ### Supports -/
theorem wt_take (w : List Nat) : ∀ k, k ≤ w.length → Dv.wt (w.take k) = ((List.range k).filter fun j => decide (w.getD j 0 ≠ 0)).length
  | 0, _ => by simp [Dv.wt]
  | k + 1, hk => by
    rw [rwt_take (by omega), wt_take w k (by omega), List.range_succ, List.filter_append, List.length_append]
    congr 1
    by_cases hx : w.getD k 0 = 0
    · rw [if_pos hx, List.filter_cons_of_neg (by simpa using hx)]
      rfl
    · rw [if_neg hx, List.filter_cons_of_pos (by simpa using hx)]
      rfl
def supp (w : List Nat) : List Nat := (List.range w.length).filter fun j => decide (w.getD j 0 ≠ 0)
theorem wt_supp (w : List Nat) : Dv.wt w = (supp w).length := by
  have := wt_take w w.length (Nat.le_refl _)
  rwa [List.take_length] at this
theorem mem_supp {w : List Nat} {j : Nat} : j ∈ supp w ↔ j < w.length ∧ w.getD j 0 ≠ 0 := by
  unfold supp
  rw [List.mem_filter]
  simp
theorem supp_nd (w : List Nat) : (supp w).Nodup := List.Pairwise.filter _ List.nodup_range
/-! ### Columns -/
/-- The first nonzero entry. -/
def fnz : List Nat → Nat
  | [] => 0
  | x :: r => if x = 0 then fnz r else x
def colOf (hs : List (List Nat)) (j : Nat) : List Nat := hs.map fun r => r.getD j 0
def normC (O : Ops) (col : List Nat) : List Nat := scaleRow O (O.inv (fnz col)) col
def ColsOk (O : Ops) (hs : List (List Nat)) (n : Nat) (b : Bool) : Prop := (∀ j, j < n → fnz (colOf hs j) ≠ 0) ∧ (b = true → ∀ i j, i < j → j < n → normC O (colOf hs i) ≠ normC O (colOf hs j))
theorem fnz_zero : ∀ l : List Nat, (∀ x ∈ l, x = 0) → fnz l = 0
  | [], _ => rfl
  | x :: r, h => by
    unfold fnz
    rw [if_pos (h x List.mem_cons_self)]
    exact fnz_zero r fun y hy => h y (List.mem_cons_of_mem _ hy)
theorem fnz_lt (hq : 0 < q) : ∀ l : List Nat, (∀ x ∈ l, x < q) → fnz l < q
  | [], _ => hq
  | x :: r, h => by
    unfold fnz
    split
    · exact fnz_lt hq r fun y hy => h y (List.mem_cons_of_mem _ hy)
    · exact h x List.mem_cons_self
theorem qeT (h : Fld q O) {s x : Nat} (hs : s < q) (hs0 : s ≠ 0) (hx : x < q) : O.mul s x = 0 ↔ x = 0 := by
  constructor
  · intro e
    refine Classical.byContradiction fun hx0 => ?_
    refine (El.fd (h := h)).mulne (El.of_ne hs hs0) (El.of_ne hx hx0) ?_
    rw [← El.of_mul hs hx, e, El.of_zero]
  · intro e
    rw [e, h.mulC _ _ hs (by omega), h.mulZ _ hs]
theorem fnz_scale (h : Fld q O) {s : Nat} (hs : s < q) (hs0 : s ≠ 0) : ∀ l : List Nat, (∀ x ∈ l, x < q) → fnz (scaleRow O s l) = if fnz l = 0 then 0 else O.mul s (fnz l)
  | [], _ => rfl
  | x :: r, hl => by
    have ih := fnz_scale h hs hs0 r fun y hy => hl y (List.mem_cons_of_mem _ hy)
    have hx := hl x List.mem_cons_self
    unfold scaleRow at ih ⊢
    rw [List.map_cons]
    unfold fnz
    by_cases hx0 : x = 0
    · rw [if_pos ((qeT h hs hs0 hx).2 hx0), if_pos hx0, ih]
    · rw [if_neg (fun e => hx0 ((qeT h hs hs0 hx).1 e)), if_neg hx0, if_neg hx0]
theorem norm_scale (h : Fld q O) {s : Nat} (hs : s < q) (hs0 : s ≠ 0) (l : List Nat) (hl : ∀ x ∈ l, x < q) (hf : fnz l ≠ 0) : normC O (scaleRow O s l) = normC O l := by
  have H := El.fd (h := h)
  have hfl := fnz_lt (by have := h.q1; omega) l hl
  unfold normC
  rw [fnz_scale h hs hs0 l hl, if_neg hf]
  generalize fnz l = f at *
  have hsf := h.mulL _ _ hs hfl
  have hsf0 : O.mul s f ≠ 0 := fun e => hf ((qeT h hs hs0 hfl).1 e)
  unfold scaleRow
  rw [List.map_map]
  apply List.map_congr_left
  intro y hy
  have hyq := hl y hy
  have ha := h.invL _ hsf hsf0
  have hb := h.invL _ hfl hf
  show O.mul (O.inv (O.mul s f)) (O.mul s y) = O.mul (O.inv f) y
  refine El.of_inj (h := h) (h.mulL _ _ ha (h.mulL _ _ hs hyq)) (h.mulL _ _ hb hyq) ?_
  rw [El.of_mul ha (h.mulL _ _ hs hyq), El.of_mul hs hyq, El.of_mul hb hyq]
  have e1 : El.of h (O.inv (O.mul s f)) * (El.of h s * El.of h f) = 1 := by
    rw [← El.of_mul hs hfl, ← El.of_mul ha hsf, h.mulC _ _ ha hsf, h.inv _ hsf hsf0, El.of_one]
  have e2 : El.of h (O.inv f) * El.of h f = 1 := by
    rw [← El.of_mul hb hfl, h.mulC _ _ hb hfl, h.inv _ hfl hf, El.of_one]
  generalize El.of h (O.inv (O.mul s f)) = A at *
  generalize El.of h (O.inv f) = B at *
  generalize El.of h s = S at *
  generalize El.of h f = F at *
  generalize El.of h y = Y at *
  have i1 : Std.Associative (α := El q O h) (· * ·) := ⟨H.mulA⟩
  have i2 : Std.Commutative (α := El q O h) (· * ·) := ⟨H.mulC⟩
  calc A * (S * Y) = A * (S * Y) * (B * F) := by rw [e2, H.umul]
    _ = (A * (S * F)) * (B * Y) := by ac_rfl
    _ = B * Y := by rw [e1, H.mulU]
theorem col_len (hs : List (List Nat)) (j : Nat) : (colOf hs j).length = hs.length := by simp [colOf]
theorem col_lt (hq : 0 < q) {hs : List (List Nat)} (hh : ∀ r ∈ hs, ∀ x ∈ r, x < q) (j : Nat) : ∀ x ∈ colOf hs j, x < q := by
  intro x hx
  unfold colOf at hx
  obtain ⟨r, hr, rfl⟩ := List.mem_map.1 hx
  exact qdH (hh r hr) hq j
theorem sm_two {n i j : Nat} {f : Nat → El q O h} (hi : i < n) (hj : j < n) (hne : i ≠ j) (hz : ∀ k, k < n → k ≠ i → k ≠ j → f k = 0) : sm n f = f i + f j := by
  have H := El.fd (h := h)
  have e : sm n f = sm n (fun k => (if k = i then f i else 0) + (if k = j then f j else 0)) := by
    refine H.sm_congr fun k hk => ?_
    by_cases e1 : k = i
    · subst e1
      rw [if_pos rfl, if_neg hne, H.zadd]
    · rw [if_neg e1, H.addZ]
      by_cases e2 : k = j
      · subst e2
        rw [if_pos rfl]
      · rw [if_neg e2]
        exact hz k hk e1 e2
  rw [e, H.sm_add, H.sm_one hi, H.sm_one hj]
  · rw [if_pos rfl, if_pos rfl]
  · intro k _ hk
    rw [if_neg hk]
  · intro k _ hk
    rw [if_neg hk]
/-- A word that is orthogonal to all rows weighs at least what the columns prove. -/
theorem cols_wt (h : Fld q O) {hs : List (List Nat)} {n low : Nat} {b : Bool} (hc : ColsOk O hs n b) (hh : ∀ r ∈ hs, ∀ x ∈ r, x < q) {w : List Nat} (hw : Dv.Ok q n w) (ho : ∀ u ∈ hs, sm n (fun j => wd h w j * wd h u j) = 0) (h0 : Dv.wt w ≠ 0) (h3 : low ≤ 3) (hb : low = 3 → b = true) : low ≤ Dv.wt w := by
  have H := El.fd (h := h)
  have hq := h.q1
  rw [wt_supp] at h0 ⊢
  have hm := fun j => mem_supp (w := w) (j := j)
  have hnd := supp_nd w
  rw [hw.1] at hm
  have hwq : ∀ j, w.getD j 0 < q := fun j => qdH hw.2 (by omega) j
  generalize supp w = S at *
  match S, h0, hm, hnd with
  | [], h0, _, _ => exact absurd rfl h0
  | [j], _, hm, _ =>
    exfalso
    have hj := (hm j).1 (by simp)
    refine hc.1 j hj.1 (fnz_zero _ fun x hx => ?_)
    unfold colOf at hx
    obtain ⟨u, hu, rfl⟩ := List.mem_map.1 hx
    have hs1 := ho u hu
    rw [H.sm_one hj.1] at hs1
    · refine Classical.byContradiction fun hx0 => H.mulne (El.of_ne (hwq j) hj.2) (El.of_ne (qdH (hh u hu) (by omega) j) hx0) hs1
    · intro k hk hkj
      have : w.getD k 0 = 0 := Classical.byContradiction fun e => hkj (by simpa using (hm k).2 ⟨hk, e⟩)
      unfold wd
      rw [this, El.of_zero, H.zmul]
  | [i, j], _, hm, hnd =>
    rw [show [i, j].length = 2 from rfl]
    refine Classical.byContradiction fun hlt => ?_
    have hb1 := hc.2 (hb (by omega))
    have hi := (hm i).1 (by simp)
    have hj := (hm j).1 (by simp)
    have hne : i ≠ j := by simpa using hnd
    -- column i is a multiple of column j
    have key : ∀ i j, i ≠ j → i < n → j < n → w.getD i 0 ≠ 0 → w.getD j 0 ≠ 0 → (∀ k, k < n → k ≠ i → k ≠ j → w.getD k 0 = 0) → normC O (colOf hs i) = normC O (colOf hs j) := by
      intro i j hne hi hj hwi hwj hz
      have hvi := h.invL _ (hwq i) hwi
      have hsc : O.neg (O.mul (O.inv (w.getD i 0)) (w.getD j 0)) < q := h.negL _ (h.mulL _ _ hvi (hwq j))
      have ei : El.of h (O.inv (w.getD i 0)) * El.of h (w.getD i 0) = 1 := by
        rw [← El.of_mul hvi (hwq i), h.mulC _ _ hvi (hwq i), h.inv _ (hwq i) hwi, El.of_one]
      have hsc0 : O.neg (O.mul (O.inv (w.getD i 0)) (w.getD j 0)) ≠ 0 := fun e => by
        have e2 := congrArg (El.of h) e
        rw [El.of_neg (h.mulL _ _ hvi (hwq j)), El.of_mul hvi (hwq j), El.of_zero] at e2
        have e3 := H.addN (El.of h (O.inv (w.getD i 0)) * El.of h (w.getD j 0))
        rw [e2, H.zadd] at e3
        refine H.mulne (fun e4 => ?_) (El.of_ne (hwq j) hwj) e3
        rw [e4, H.zmul] at ei
        exact H.ne ei.symm
      have ec : colOf hs i = scaleRow O (O.neg (O.mul (O.inv (w.getD i 0)) (w.getD j 0))) (colOf hs j) := by
        unfold colOf scaleRow
        rw [List.map_map]
        apply List.map_congr_left
        intro u hu
        have hui := qdH (hh u hu) (by omega : 0 < q) i
        have huj := qdH (hh u hu) (by omega : 0 < q) j
        refine El.of_inj (h := h) hui (h.mulL _ _ hsc huj) ?_
        show _ = El.of h (O.mul _ _)
        rw [El.of_mul hsc huj, El.of_neg (h.mulL _ _ hvi (hwq j)), El.of_mul hvi (hwq j)]
        have hs1 := ho u hu
        rw [sm_two hi hj hne fun k hk h1 h2 => by unfold wd; rw [hz k hk h1 h2, El.of_zero, H.zmul]] at hs1
        unfold wd at hs1
        have e5 := H.negu hs1
        rw [H.negm]
        generalize El.of h (O.inv (w.getD i 0)) = A at *
        generalize El.of h (w.getD i 0) = X at *
        generalize El.of h (w.getD j 0) = Y at *
        generalize El.of h (u.getD i 0) = U at *
        generalize El.of h (u.getD j 0) = V at *
        rw [H.mulA, e5, H.mneg, ← H.mulA, ei, H.mulU]
        refine H.cancel (x := -U) ?_
        rw [H.nadd, H.addN]
      rw [ec]
      refine norm_scale h hsc hsc0 _ (col_lt (by omega) hh j) (hc.1 j hj)
    have hz : ∀ k, k < n → k ≠ i → k ≠ j → w.getD k 0 = 0 := fun k hk h1 h2 => Classical.byContradiction fun e => by
      have := (hm k).2 ⟨hk, e⟩
      simp at this
      rcases this with e | e
      · exact h1 e
      · exact h2 e
    rcases Nat.lt_or_gt_of_ne hne with hlt2 | hlt2
    · exact hb1 i j hlt2 hj.1 (key i j hne hi.1 hj.1 hi.2 hj.2 hz)
    · exact hb1 j i hlt2 hi.1 (key j i (fun e => hne e.symm) hj.1 hi.1 hj.2 hi.2 fun k hk h1 h2 => hz k hk h2 h1)
  | _ :: _ :: _ :: l, _, _, _ => simp; omega
/-! ### Vandermonde matrices -/
theorem wd_rowG {M L : List Nat} (hM : ∀ x ∈ M, x < q) (hL : ∀ x ∈ L, x < q) (hl : M.length = L.length) (j : Nat) (hj : j < L.length) : ∀ k, wd h (rowG O M L k) j = wd h M j * pwr (wd h L j) k
  | 0 => ((El.fd (h := h)).umul _).symm
  | k + 1 => by
    have H := El.fd (h := h)
    have ih := wd_rowG hM hL hl j hj k
    have hr := rowG_lt h.self hM hL k
    have hrl := rowG_len O M L hl k
    show wd h (List.zipWith O.mul (rowG O M L k) L) j = wd h M j * (pwr (wd h L j) k * wd h L j)
    rw [← H.mulA, ← ih]
    unfold wd
    have e : (List.zipWith O.mul (rowG O M L k) L).getD j 0 = O.mul ((rowG O M L k).getD j 0) (L.getD j 0) := by
      rw [qbY (by rw [List.length_zipWith]; omega), qbY (by omega), qbY hj, List.getElem_zipWith]
    rw [e, El.of_mul (qdH hr (by have := h.q1; omega) j) (qdH hL (by have := h.q1; omega) j)]
/-- The words of polynomials with k coefficients. -/
def PolW (h : Fld q O) (M L : List Nat) (n k : Nat) (f : Nat → El q O h) : Prop := ∃ l : List (El q O h), l.length = k ∧ ∀ j, j < n → f j = wd h M j * ev l (wd h L j)
theorem ev_zeros (H : Fd (El q O h)) (x : El q O h) : ∀ k, ev (List.replicate k 0) x = 0
  | 0 => rfl
  | k + 1 => by
    show 0 + x * ev (List.replicate k 0) x = 0
    rw [ev_zeros H x k, H.mulZ, H.addZ]
theorem ev_mono (H : Fd (El q O h)) : ∀ (k n : Nat), k < n → ∃ l : List (El q O h), l.length = n ∧ ∀ x, ev l x = pwr x k := fun k n hk => by
  have hz : ∀ (x : El q O h) (k : Nat) (l : List (El q O h)), ev (List.replicate k 0 ++ l) x = pwr x k * ev l x := by
    intro x k
    induction k with
    | zero => intro l; exact (H.mulU _).symm
    | succ k ih =>
      intro l
      show 0 + x * ev (List.replicate k 0 ++ l) x = pwr x k * x * ev l x
      rw [ih, H.addZ, ← H.mulA, H.mulC x]
  refine ⟨List.replicate k 0 ++ 1 :: List.replicate (n - k - 1) 0, by simp; omega, fun x => ?_⟩
  rw [hz]
  show pwr x k * (1 + x * ev (List.replicate (n - k - 1) 0) x) = _
  rw [ev_zeros H, H.mulZ, H.zadd, H.umul]
theorem polW_lin (h : Fld q O) (M L : List Nat) (n k : Nat) : LinF q O h (PolW h M L n k) := by
  have H := El.fd (h := h)
  refine ⟨⟨List.replicate k 0, by simp, fun j _ => by rw [ev_zeros H, H.mulZ]⟩, ?_⟩
  rintro f g a ⟨l, h1, h2⟩ ⟨l', h3, h4⟩
  refine ⟨List.zipWith (fun x y => x + a * y) l l', by simp [h1, h3], fun j hj => ?_⟩
  show f j + a * g j = _
  rw [h2 j hj, h4 j hj, H.ev_lin a l l' (by omega), H.dist]
  congr 1
  rw [← H.mulA, ← H.mulA, H.mulC a]
theorem gen_wt (h : Fld q O) {M L : List Nat} {k : Nat} (hM : ∀ x ∈ M, x < q) (hL : ∀ x ∈ L, x < q) (hl : M.length = L.length) (hM0 : ∀ x ∈ M, x ≠ 0) (hd : ∀ i j, j < i → i < L.length → L.getD i 0 ≠ L.getD j 0)
    {w : List Nat} (hw : Dv.Ok q L.length w) (hp : PolW h M L L.length k (wd h w)) (h0 : Dv.wt w ≠ 0) : L.length - k + 1 ≤ Dv.wt w := by
  have H := El.fd (h := h)
  have hq := h.q1
  obtain ⟨l, hl1, hl2⟩ := hp
  refine Classical.byContradiction fun hlt => ?_
  -- the points at which the word is zero
  have hz : ((List.range L.length).filter fun j => decide (w.getD j 0 = 0)).length + Dv.wt w = L.length := by
    have h1 := filter_two (fun j => decide (w.getD j 0 = 0)) (List.range L.length)
    rw [List.length_range] at h1
    rw [wt_supp]
    unfold supp
    rw [hw.1]
    have e : (List.range L.length).filter (fun j => decide (w.getD j 0 ≠ 0)) = (List.range L.length).filter fun j => !decide (w.getD j 0 = 0) := by
      apply List.filter_congr
      intro j _
      simp
    rw [e]
    exact h1
  have hmz : ∀ j, j ∈ (List.range L.length).filter (fun j => decide (w.getD j 0 = 0)) ↔ j < L.length ∧ w.getD j 0 = 0 := fun j => by
    rw [List.mem_filter]
    simp
  have hnz : ((List.range L.length).filter fun j => decide (w.getD j 0 = 0)).Nodup := List.Pairwise.filter _ List.nodup_range
  generalize (List.range L.length).filter (fun j => decide (w.getD j 0 = 0)) = Z at *
  have hLq : ∀ j, L.getD j 0 < q := fun j => qdH hL (by omega) j
  have hMn : ∀ j, j < L.length → wd h M j ≠ 0 := fun j hj => El.of_ne (qdH hM (by omega) j) (by
    rw [qbY (by omega)]
    exact hM0 _ (List.getElem_mem _))
  have hall := H.roots l (Z.map (wd h L)) (by
    unfold List.Nodup
    rw [List.pairwise_map]
    refine List.Pairwise.imp_of_mem ?_ hnz
    intro a b ha hb hab e
    have e2 := El.of_inj (hLq a) (hLq b) e
    have ha' := ((hmz a).1 ha).1
    have hb' := ((hmz b).1 hb).1
    rcases Nat.lt_or_gt_of_ne hab with hlt | hlt
    · exact hd b a hlt hb' e2.symm
    · exact hd a b hlt ha' e2) (fun z hz => by
    obtain ⟨j, hj, rfl⟩ := List.mem_map.1 hz
    obtain ⟨hj1, hj2⟩ := (hmz j).1 hj
    refine Classical.byContradiction fun hne => H.mulne (hMn j hj1) hne ?_
    rw [← hl2 j hj1]
    unfold wd
    rw [hj2, El.of_zero]) (by rw [List.length_map]; omega)
  have hw0 : supp w = [] := by
    rw [List.eq_nil_iff_forall_not_mem]
    intro j hj
    obtain ⟨h1, h2⟩ := mem_supp.1 hj
    rw [hw.1] at h1
    refine El.of_ne (h := h) (qdH hw.2 (by omega) j) h2 ?_
    have := hl2 j h1
    unfold wd at this
    rw [this]
    have h3 := hall (El.of h (L.getD j 0))
    rw [h3, H.mulZ]
  rw [wt_supp, hw0] at h0
  exact h0 rfl
end
end Al
end Go.Proofs.YtlmglaonldlanaaGreat
namespace Go.Proofs.YtlmglaonldlanaaGreat
open Go.RowKit Pln
open Al (fnz colOf normC ColsOk col_len col_lt fnz_lt)
theorem nzIx_fnz:∀ (l:List Nat) (k:Nat),(fnz l=0/\nzIx l k=-1)\/(∃ i,i<l.length/\nzIx l k=((k+i:Nat):Int)/\l.getD i 0=fnz l/\fnz l≠0)
 | [],_=>.inl ⟨rfl,rfl⟩
 | x :: r,k => by
   unfold nzIx fnz
   by_cases hx:x=0
   . rw [if_pos hx,if_pos hx]
     rcases nzIx_fnz r (k+1) with ⟨h1,h2⟩ | ⟨i,h1,h2,h3,h4⟩
     . exact .inl ⟨h1,h2⟩
     . exact .inr ⟨i+1,by simp;omega,by rw [h2];omega,by rw [<- h3];simp [List.getD],h4⟩
   . rw [if_neg hx,if_neg hx]
     exact .inr ⟨0,by simp,by simp,by simp [List.getD],hx⟩
set_option maxHeartbeats 1000000 in
set_option maxRecDepth 100000 in
theorem columns2_any (o col:List Int) (Ao Ac:Option Addr) (co cc bc:Nat) (W:World) (ho:IntsAt W W.heap.size Ao o) (hc:W.cell? ⟨bc,0,none⟩=some (.slice Ac col.length cc)) (hi:IntsAt W W.heap.size Ac col) (hl:o.length<=1000) :
 Calls Tryz.prog 103 #[.slice Ao o.length co,.pointer (some ⟨bc,0,none⟩)] W (Quiet (.bool (decide (o=col))) W):=by
 have HC:=Lib.hid (sequal_c o col Ao Ac co cc W ho hi (by omega))
 clear ho hi
 go_enter Tryz.func103,Tryz.ntmps103
 go_wp2_with fail
 refine HC.out.mono ?_
 rintro e w' ⟨rfl,n,rfl⟩
 go_wp2_with fail
 go_ret
 exact ⟨rfl,n,rfl⟩
def RelFan (w:World) (R:List (List Int)) (col:List Int) (v8:Value) (wr:World):Prop:=∃ k m:Nat,k<=R.length/\v8=.int .i64 k/\wr=w.drewN m/\∀ i,i<k->R.getD i []≠col
def FanPost (w:World) (R:List (List Int)) (col:List Int) (e:Ending) (w':World):Prop:=(∃ z:Int,e=.returned (.int .i64 z)/\(z<0->∀ i,i<R.length->R.getD i []≠col))/\∃ m,w'=w.drewN m
set_option maxHeartbeats 2000000 in
set_option maxRecDepth 100000 in
theorem indexfar_any (R:List (List Int)) (col:List Int) (A Ac:Option Addr) (c cc bc:Nat) (w:World) (hA:RowsAt w w.heap.size A R) (hc:w.cell? ⟨bc,0,none⟩=some (.slice Ac col.length cc)) (hi:IntsAt w w.heap.size Ac col) (hl:R.length<=1000) (hr:∀ o∈R,o.length<=1000) :
 Calls Tryz.prog 159 #[.slice A R.length c,.func (.func 103) #[] #[.pointer (some ⟨bc,0,none⟩)]] w (FanPost w R col):=by
 have HA:=Lib.hid hA
 have HF:Hid (∀ (m k:Nat) (Ao:Option Addr) (co:Nat),k<R.length->IntsAt w w.heap.size Ao (R.getD k [])->Calls Tryz.prog 103 #[.slice Ao (R.getD k []).length co,.pointer (some ⟨bc,0,none⟩)] (w.drewN m) (Quiet (.bool (decide (R.getD k []=col))) (w.drewN m))):=fun m k Ao co hk ho=>by
  have hm:R.getD k []∈R:=by
   have:R.getD k []=R[k]:=by simp [List.getD,hk]
   rw [this]
   exact List.getElem_mem hk
  exact columns2_any (R.getD k []) col Ao Ac co cc bc (w.drewN m) (ho.keep (qaA (Below.refl _ _) m)) hc (hi.keep (qaA (Below.refl _ _) m)) (hr _ hm)
 clear hA hc hi hr
 go_enter Tryz.func159,Tryz.ntmps159
 go_wp2_with fail
 go_loopw [8] (fun v8 wr=>RelFan w R col v8 wr) (fun v8 _=>R.length-(intOf v8).toNat)
 case atStart=>exact ⟨0,0,by omega,rfl,rfl,fun i h=>absurd h (by omega)⟩
 case round =>
  obtain ⟨k,m,hk,rfl,rfl,hp⟩:=hrel
  have HP:=Lib.hid hp
  clear hp
  by_cases hlt:k<R.length
  . obtain ⟨b,o,Ai,ci,rfl,hb,hcr,hir⟩ := HA.out.at_ (i := k) hlt
    have y0:(w.drewN m).cell? ⟨b,o+k,none⟩=some (.slice Ai (R.getD k []).length ci):=hcr
    have HC:=Lib.hid (HF.out m k Ai ci hlt hir)
    have k0:(0:Int)<=(k:Int):=by omega
    have k1:(k:Int)<(R.length:Int):=by omega
    have hw1:IntKind.i64.wrap ((k:Int)+1)=(k:Int)+1:=IntWalk.i64_in _ (by omega)
    have HS:Hid (R.getD k []≠col->∀ i,i<k+1->R.getD i []≠col):=fun h i hi=>by
     rcases Nat.lt_succ_iff_lt_or_eq.1 hi with h1 | rfl
     . exact HP.out i h1
     . exact h
    clear hcr hir
    by_cases he:R.getD k []=col
    . rw [decide_eq_true he] at HC
      clear he HS
      generalize R.getD k []=r at *
      go_wp2_with fail
      refine HC.out.mono ?_
      rintro e w' ⟨rfl,n,rfl⟩
      go_wp2_with fail
      go_ret
      exact ⟨⟨_,rfl,fun h=>by omega⟩,m+n,by first | rfl | rw [World.drewN_drewN]⟩
    . rw [decide_eq_false he] at HC
      have HS1:=Lib.hid (HS.out he)
      clear he HS
      generalize R.getD k []=r at *
      go_wp2_with fail
      refine HC.out.mono ?_
      rintro e w' ⟨rfl,n,rfl⟩
      go_wp2_with fail
      go_roundw
      case rel=>exact ⟨k+1,m+n,by omega,by go_num,(by first | rfl | rw [World.drewN_drewN]),HS1.out⟩
      case measure=>simp [intOf];omega
  . obtain rfl : k = R.length := by omega
    go_wp2_with fail
    go_ret
    exact ⟨⟨_,rfl,fun _=>HP.out⟩,m,rfl⟩
set_option maxHeartbeats 1000000 in
set_option maxRecDepth 100000 in
theorem containsfar_any (R:List (List Int)) (col:List Int) (A Ac:Option Addr) (c cc bc:Nat) (w:World) (hA:RowsAt w w.heap.size A R) (hc:w.cell? ⟨bc,0,none⟩=some (.slice Ac col.length cc)) (hi:IntsAt w w.heap.size Ac col) (hl:R.length<=1000) (hr:∀ o∈R,o.length<=1000) :
 Calls Tryz.prog 102 #[.slice A R.length c,.func (.func 103) #[] #[.pointer (some ⟨bc,0,none⟩)]] w fun e w'=>(∃ b:Bool,e=.returned (.bool b)/\(b=false->∀ i,i<R.length->R.getD i []≠col))/\∃ m,w'=w.drewN m:=by
 have HC:=Lib.hid (indexfar_any R col A Ac c cc bc w hA hc hi hl hr)
 clear hA hi hr
 go_enter Tryz.func102,Tryz.ntmps102
 go_wp2_with fail
 refine HC.out.mono ?_
 rintro e w' ⟨⟨z,rfl,hz⟩,n,rfl⟩
 have HZ:=Lib.hid hz
 clear hz
 by_cases h0:0<=z
 . go_wp2_with fail
   go_ret
   exact ⟨⟨_,rfl,fun h=>by simp at h <;> omega⟩,n,rfl⟩
 . have HN : Hid (z < 0) := by show z < 0;omega
   clear h0
   go_wp2_with fail
   go_ret
   exact ⟨⟨_,rfl,fun _=>HZ.out HN.out⟩,n,rfl⟩
end Go.Proofs.YtlmglaonldlanaaGreat
