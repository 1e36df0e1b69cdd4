/-
  Plain: the program's field check is the reference's; the operations are the reference's.
-/
import Derived.Test.YtcfejnnhcdlffaaGreatGa
namespace Go.Proofs.YtcfejnnhcdlffaaGreat
open Go.RowKit Pln

theorem chkP_mem {t : List (Nat × Nat)} (h : chkP t = true) {p : Nat} (hp : (t.map Prod.fst).elem p = true) : ∃ x, okP p x = true := by
  have hm : p ∈ t.map Prod.fst := List.elem_iff.1 hp
  obtain ⟨e, he, rfl⟩ := List.mem_map.1 hm
  exact ⟨e.2, List.all_eq_true.1 h e he⟩
theorem gen_prime {p : Nat} (hq : p ≤ 256) (hp : primeP p = true) : genM (mulM p 1 [0]) p ≠ [] := by
  have h := List.all_eq_true.1 primes_are p (List.mem_range.2 (by omega))
  unfold primeP at hp
  rw [hp, Bool.not_true, Bool.false_or] at h
  obtain ⟨x, hx⟩ := chkP_mem ok_primes h
  exact okP_spec hq hx
theorem small_primes : ∀ p, p < 17 → primeP p = true → p = 2 ∨ p = 3 ∨ p = 5 ∨ p = 7 ∨ p = 11 ∨ p = 13 := by decide +kernel
theorem pow_gt {p k m b : Nat} (hp : 2 ≤ p) (hb : b < p ^ k) (h : p ^ m ≤ b) : m < k := by
  rcases Nat.lt_or_ge m k with h1 | h1
  · exact h1
  · have := pow_le_mono hp h1
    omega
theorem gen_irr_all {p m : Nat} (hs : Small p m) (hpr : primeP p = true) (hm : 2 ≤ m) {md : List Nat} (hmd : Dig p m md) : (genM (mulM p m md) (p ^ m) ≠ []) ↔ irrM p md = true := by
  obtain ⟨p1, p2, m1, m2, q⟩ := hs
  have hp17 : p < 17 := by
    have h1 := pow_le_mono (p := p) p1 hm
    rcases Nat.lt_or_ge p 17 with h | h
    · exact h
    · have := Nat.mul_le_mul h h
      rw [Nat.pow_two] at h1
      omega
  rcases small_primes p hp17 hpr with rfl | rfl | rfl | rfl | rfl | rfl
  · rcases (by omega : m = 2 ∨ m = 3 ∨ m = 4 ∨ m = 5 ∨ m = 6 ∨ m = 7 ∨ m = 8) with rfl | rfl | rfl | rfl | rfl | rfl | rfl
    · exact gen_irr (by decide) (by decide) (by decide) (by decide +kernel) ok_2_2 hmd
    · exact gen_irr (by decide) (by decide) (by decide) (by decide +kernel) ok_2_3 hmd
    · exact gen_irr (by decide) (by decide) (by decide) (by decide +kernel) ok_2_4 hmd
    · exact gen_irr (by decide) (by decide) (by decide) (by decide +kernel) ok_2_5 hmd
    · exact gen_irr (by decide) (by decide) (by decide) (by decide +kernel) ok_2_6 hmd
    · exact gen_irr (by decide) (by decide) (by decide) (by decide +kernel) ok_2_7 hmd
    · exact gen_irr (by decide) (by decide) (by decide) (by decide +kernel) ok_2_8 hmd
  · have := pow_gt (p := 3) (k := 6) (m := m) (b := 256) (by decide) (by decide) q
    rcases (by omega : m = 2 ∨ m = 3 ∨ m = 4 ∨ m = 5) with rfl | rfl | rfl | rfl
    · exact gen_irr (by decide) (by decide) (by decide) (by decide +kernel) ok_3_2 hmd
    · exact gen_irr (by decide) (by decide) (by decide) (by decide +kernel) ok_3_3 hmd
    · exact gen_irr (by decide) (by decide) (by decide) (by decide +kernel) ok_3_4 hmd
    · exact gen_irr (by decide) (by decide) (by decide) (by decide +kernel) ok_3_5 hmd
  · have := pow_gt (p := 5) (k := 4) (m := m) (b := 256) (by decide) (by decide) q
    rcases (by omega : m = 2 ∨ m = 3) with rfl | rfl
    · exact gen_irr (by decide) (by decide) (by decide) (by decide +kernel) ok_5_2 hmd
    · exact gen_irr (by decide) (by decide) (by decide) (by decide +kernel) ok_5_3 hmd
  · have := pow_gt (p := 7) (k := 3) (m := m) (b := 256) (by decide) (by decide) q
    obtain rfl : m = 2 := by omega
    exact gen_irr (by decide) (by decide) (by decide) (by decide +kernel) ok_7_2 hmd
  · have := pow_gt (p := 11) (k := 3) (m := m) (b := 256) (by decide) (by decide) q
    obtain rfl : m = 2 := by omega
    exact gen_irr (by decide) (by decide) (by decide) (by decide +kernel) ok_11_2 hmd
  · have := pow_gt (p := 13) (k := 3) (m := m) (b := 256) (by decide) (by decide) q
    obtain rfl : m = 2 := by omega
    exact gen_irr (by decide) (by decide) (by decide) (by decide +kernel) ok_13_2 hmd
theorem not_nil {α : Type} {l : List α} (h : l ≠ []) : (!l.isEmpty) = true := by
  cases l with
  | nil => exact absurd rfl h
  | cons => rfl
theorem fieldOK_eq (p m : Int) (mod : List Int) : fieldOK p m mod = (shapeM p m mod && (decide (m = 1) || irrM p.toNat (mod.map Int.toNat))) := by
  unfold fieldOK
  cases hsh : shapeM p m mod
  · simp
  · have hs := shape_is hsh
    rw [Bool.true_and, Bool.true_and]
    by_cases hm : m = 1
    · subst hm
      have h1 : mdOf 1 mod = [0] := by simp [mdOf]
      have h2 : (1 : Int).toNat = 1 := rfl
      rw [h1, h2, Nat.pow_one, not_nil (gen_prime hs.small.p2 hs.prime)]
      simp
    · have hmm : mdOf m mod = mod.map Int.toNat := by simp [mdOf, hm]
      have hdig : Dig p.toNat m.toNat (mdOf m mod) := ⟨by rw [hmm, List.length_map, hs.len hm], hs.lt⟩
      have hm2 : 2 ≤ m.toNat := by have h1 := hs.small.m1; have h2 := hs.m0; omega
      have h := gen_irr_all hs.small hs.prime hm2 hdig
      rw [← hmm, decide_eq_false hm, Bool.false_or]
      by_cases hi : irrM p.toNat (mdOf m mod) = true
      · rw [hi, not_nil (h.2 hi)]
      · have hn : genM (mulM p.toNat m.toNat (mdOf m mod)) (p.toNat ^ m.toNat) = [] := Classical.byContradiction fun h' => hi (h.1 h')
        rw [hn, (Bool.not_eq_true _).mp hi]
        rfl

/-- The reference's operations. -/
def refMul (p m : Nat) (md : List Nat) (x y : Nat) : Nat := val p (refMulL p m md (digs p m x) (digs p m y))
def refOps (p m : Nat) (md : List Nat) : Ops := ⟨addD p m, refMul p m md, negD p m, refInv (refMul p m md) (p ^ m)⟩
theorem refMul_eq {p m : Nat} (hp : 0 < p) (hm : 0 < m) {md : List Nat} (hmd : md.length = m) : refMul p m md = mulM p m md := by
  funext x y
  unfold refMul mulM
  rw [refMulL_eq hp hm md _ _ hmd (digs_len p m x) (digs_len p m y)]
theorem ops_eq {p m : Nat} {md l : List Nat} (h : FT p m md l) (hmd : md.length = m) : OpsEq (p ^ m) (opsT p m l) (refOps p m md) where
  add x y _ _ := ⟨rfl, addD_lt (by have := h.small.p1; omega) m x y⟩
  mul x y hx hy := ⟨by
    show mulT l (logL l (p ^ m)) (p ^ m) x y = refMul p m md x y
    rw [refMul_eq (by have := h.small.p1; omega) h.small.m1 hmd]
    exact h.tab.mul_eq (mulM_mon (by have := h.small.p1; omega) h.small.m1 md) hx hy, mulT_lt h hx hy⟩
  neg x _ := ⟨rfl, negD_lt (by have := h.small.p1; omega) m x⟩
  inv x hx h0 := ⟨by
    show invT l (logL l (p ^ m)) (p ^ m) x = refInv (refMul p m md) (p ^ m) x
    rw [refMul_eq (by have := h.small.p1; omega) h.small.m1 hmd]
    exact (refInv_eq (mulM_mon (by have := h.small.p1; omega) h.small.m1 md) h.tab h0 hx).symm, (h.tab.inv (mulM_mon (by have := h.small.p1; omega) h.small.m1 md) h0 hx).2.1⟩
#print axioms fieldOK_eq
#print axioms ops_eq
end Go.Proofs.YtcfejnnhcdlffaaGreat
