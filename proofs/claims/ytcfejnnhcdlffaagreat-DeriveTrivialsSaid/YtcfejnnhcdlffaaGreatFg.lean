/-
  The program's field: the shape of a description.
-/
import Derived.Test.YtcfejnnhcdlffaaGreatFf
namespace Go.Proofs.YtcfejnnhcdlffaaGreat
open Go.RowKit Pln

def okI (z : Int) : Prop := -9223372036854775808 ≤ z ∧ z ≤ 9223372036854775807
/-- The coefficients as numbers; [0] for a prime field. -/
def mdOf (m : Int) (mod : List Int) : List Nat := if m = 1 then [0] else mod.map Int.toNat
def inB (p c : Int) : Bool := decide (0 ≤ c) && decide (c < p)
def shapeM (p m : Int) (mod : List Int) : Bool :=
  !(orderM p m == 0) && primeP p.toNat && (if m = 1 then mod.length == 0 else ((mod.length : Int) == m) && mod.all (inB p))
/-- What a description of the right shape is. -/
structure ShapeIs (p m : Int) (mod : List Int) : Prop where
  p0 : ((p.toNat : Nat) : Int) = p
  m0 : ((m.toNat : Nat) : Int) = m
  small : Small p.toNat m.toNat
  prime : primeP p.toNat = true
  ord : orderM p m = ((p.toNat ^ m.toNat : Nat) : Int)
  one : m = 1 → mod = []
  len : m ≠ 1 → mod.length = m.toNat
  nat : m ≠ 1 → nz (mdOf m mod) = mod
  lt : ∀ d ∈ mdOf m mod, d < p.toNat
theorem orderM_ne {p m : Int} (h : orderM p m ≠ 0) : ((p.toNat : Nat) : Int) = p ∧ ((m.toNat : Nat) : Int) = m ∧ Small p.toNat m.toNat ∧ orderM p m = ((p.toNat ^ m.toNat : Nat) : Int) := by
  unfold orderM at h ⊢
  by_cases h1 : p < 2 ∨ 256 < p ∨ m < 1 ∨ 8 < m
  · rw [if_pos h1] at h
    exact absurd rfl h
  · rw [if_neg h1] at h ⊢
    by_cases h2 : 256 < p.toNat ^ m.toNat
    · rw [if_pos h2] at h
      exact absurd rfl h
    · rw [if_neg h2]
      exact ⟨by omega, by omega, ⟨by omega, by omega, by omega, by omega, by omega⟩, rfl⟩
theorem shape_is {p m : Int} {mod : List Int} (h : shapeM p m mod = true) : ShapeIs p m mod := by
  unfold shapeM at h
  simp only [Bool.and_eq_true, Bool.not_eq_true', beq_eq_false_iff_ne, ne_eq] at h
  obtain ⟨⟨h1, h2⟩, h3⟩ := h
  obtain ⟨a, b, c, d⟩ := orderM_ne h1
  by_cases hm : m = 1
  · rw [if_pos hm] at h3
    refine ⟨a, b, c, h2, d, fun _ => by simpa using h3, fun h => absurd hm h, fun h => absurd hm h, ?_⟩
    intro x hx
    unfold mdOf at hx
    rw [if_pos hm] at hx
    simp at hx
    have := c.p1
    omega
  · rw [if_neg hm] at h3
    simp only [Bool.and_eq_true, beq_iff_eq] at h3
    have hall : ∀ z ∈ mod, 0 ≤ z ∧ z < p := fun z hz => by
      have := List.all_eq_true.1 h3.2 z hz
      simpa [inB] using this
    refine ⟨a, b, c, h2, d, fun h => absurd h hm, fun _ => by omega, fun _ => ?_, ?_⟩
    · unfold mdOf nz
      rw [if_neg hm, List.map_map]
      conv => rhs; rw [← List.map_id mod]
      apply List.map_congr_left
      intro z hz
      have := hall z hz
      simp
      omega
    · intro x hx
      unfold mdOf at hx
      rw [if_neg hm] at hx
      obtain ⟨z, hz, rfl⟩ := List.mem_map.1 hx
      have := hall z hz
      omega
theorem ShapeIs.mod {w : World} {p m : Int} {mod : List Int} {B : Nat} {A : Option Addr} (h : ShapeIs p m mod) (hA : IntsAt w B A mod) : ModAt w B m.toNat A mod.length (mdOf m mod) := by
  by_cases hm : m = 1
  · refine .inl ⟨by omega, ?_⟩
    unfold mdOf
    rw [if_pos hm]
  · have h1 := h.small.m1
    have h2 := h.m0
    refine .inr ⟨by omega, h.len hm, ?_, ?_⟩
    · have := h.nat hm
      rw [← h.len hm, ← this, nz_len, this]
    · rw [h.nat hm]
      exact hA

set_option maxHeartbeats 1000000 in
set_option maxRecDepth 100000 in
theorem shape_c (p m : Int) (mod : List Int) (A : Option Addr) (c : Nat) (w : World) (hA : IntsAt w w.heap.size A mod) (hl : mod.length ≤ 9223372036854775807) :
    Calls Tryz.prog 35 #[.agg #[.int .i64 p, .int .i64 m, .slice A mod.length c]] w fun e w' => e = .returned (.bool (shapeM p m mod)) ∧ Below w.heap.size w w' := by
  have HA := Lib.hid hA
  have HBN : Hid (Below w.heap.size w (w.alloc (.cells #[.int .i64 p, .int .i64 m, .slice A mod.length c] 24))) := (Below.refl _ _).alloc (Nat.le_refl _) _
  clear hA
  by_cases ho : orderM p m = 0
  · have HS : Hid (shapeM p m mod = false) := by show _ = _; unfold shapeM; rw [ho]; rfl
    have hob : (orderM p m == 0) = true := by rw [ho]; rfl
    clear ho
    go_enter Tryz.func35, Tryz.ntmps35
    go_wp2_with (go_at_call 37; refine (order_c _ _ _).mono ?_; rintro e w' ⟨rfl, rfl⟩)
    go_ret
    exact ⟨ret_bool HS.out.symm, HBN.out⟩
  · obtain ⟨hp0, hm0, hsm, hord⟩ := orderM_ne ho
    have hob : (orderM p m == 0) = false := by simpa using ho
    obtain ⟨p, rfl⟩ : ∃ p' : Nat, p = p' := ⟨p.toNat, hp0.symm⟩
    obtain ⟨m, rfl⟩ : ∃ m' : Nat, m = m' := ⟨m.toNat, hm0.symm⟩
    obtain ⟨hp1, hp2, hm1, hm2, hq⟩ := hsm
    simp only [Int.toNat_natCast] at hp1 hp2 hm1 hm2
    have HSH : Hid (shapeM p m mod = (primeP p && (if (m : Int) = 1 then mod.length == 0 else ((mod.length : Int) == (m : Int)) && mod.all (inB p)))) := by
      show _ = _
      unfold shapeM
      rw [hob]
      simp
    clear hp0 hm0 ho hq hord
    cases hpr : primeP p
    · have HS : Hid (shapeM p m mod = false) := by show _ = _; rw [HSH.out, hpr]; rfl
      have HP : Hid (∀ W : World, Calls Tryz.prog 48 #[.int .i64 (p : Int)] W fun e w' => e = .returned (.bool false) ∧ W = w') := fun W => by
        have := isPrime_c p hp2 W
        rw [hpr] at this
        exact this
      clear hpr HSH
      go_enter Tryz.func35, Tryz.ntmps35
      go_wp2_with (first | (go_at_call 37; refine (order_c _ _ _).mono ?_; rintro e w' ⟨rfl, rfl⟩) | (go_at_call 48; refine (HP.out _).mono ?_; rintro e w' ⟨rfl, rfl⟩))
      go_ret
      exact ⟨ret_bool HS.out.symm, HBN.out⟩
    · have HP : Hid (∀ W : World, Calls Tryz.prog 48 #[.int .i64 (p : Int)] W fun e w' => e = .returned (.bool true) ∧ W = w') := fun W => by
        have := isPrime_c p hp2 W
        rw [hpr] at this
        exact this
      rw [hpr] at HSH
      clear hpr
      have HZ1 : Hid ((w.alloc (.cells #[.int .i64 p, .int .i64 m, .slice A mod.length c] 24)).heap[w.heap.size]? = some (.cells #[.int .i64 p, .int .i64 m, .slice A mod.length c] 24 (0, 0))) := heap_alloc_new _ _
      by_cases hmm : m = 1
      · have HS : Hid (shapeM p m mod = (mod.length == 0)) := by show _ = _; rw [HSH.out, if_pos (by omega)]; rfl
        have hmb : ((m : Int) == 1) = true := by simp; omega
        have hmc : (m : Int) = 1 := by omega
        clear HSH hmm hmc
        go_enter Tryz.func35, Tryz.ntmps35
        go_wp2_with (first | (go_at_call 37; refine (order_c _ _ _).mono ?_; rintro e w' ⟨rfl, rfl⟩) | (go_at_call 48; refine (HP.out _).mono ?_; rintro e w' ⟨rfl, rfl⟩))
        go_ret
        refine ⟨ret_bool ?_, HBN.out⟩
        rw [HS.out]
        have hz : ((mod.length : Int) == 0) = (mod.length == 0) := by
          by_cases h0 : mod.length = 0
          · rw [h0]; rfl
          · have h1 : ¬ (mod.length : Int) = 0 := by omega
            rw [beq_eq_false_iff_ne.2 h1, beq_eq_false_iff_ne.2 h0]
        exact hz
      · have hmb : ((m : Int) == 1) = false := by simp; omega
        have HSH2 : Hid (shapeM p m mod = (((mod.length : Int) == (m : Int)) && mod.all (inB p))) := by show _ = _; rw [HSH.out, if_neg (by omega)]; rfl
        clear HSH
        by_cases hlen : mod.length = m
        · have hlb : ((mod.length : Int) == (m : Int)) = true := by simp; omega
          have hlb2 : ((mod.length : Int) != (m : Int)) = false := by simp; omega
          have HS : Hid (shapeM p m mod = mod.all (inB p)) := by show _ = _; rw [HSH2.out, hlb]; rfl
          have HLEN := Lib.hid hlen
          have hl8 : mod.length ≤ 8 := by omega
          clear HSH2 hlb hlen
          go_enter Tryz.func35, Tryz.ntmps35
          go_wp2_with (first | (go_at_call 37; refine (order_c _ _ _).mono ?_; rintro e w' ⟨rfl, rfl⟩) | (go_at_call 48; refine (HP.out _).mono ?_; rintro e w' ⟨rfl, rfl⟩))
          generalize w.alloc (.cells #[.int .i64 p, .int .i64 m, .slice A mod.length c] 24) = W at *
          go_loop [33] (fun v33 => ∃ k : Nat, k ≤ mod.length ∧ v33 = .int .i64 k ∧ (mod.take k).all (inB p) = true) (fun v33 => mod.length - (intOf v33).toNat)
          case atStart => exact ⟨0, by omega, rfl, by simp⟩
          case round =>
            obtain ⟨k, hk, rfl, hall⟩ := hrel
            have HALL := Lib.hid hall
            clear hall
            have z0 : W.cell? ⟨w.heap.size, 0, none⟩ = some (.int .i64 p) := cell_of_row _ _ 0 _ _ _ HZ1.out
            by_cases hlt : k < mod.length
            · obtain ⟨b, o, rfl, hb, hc⟩ := (HA.out.keep HBN.out).at_ hlt
              have HTK : Hid ((mod.take (k + 1)).all (inB p) = ((mod.take k).all (inB p) && inB p (mod.getD k 0))) := by
                show _ = _
                rw [List.take_succ_eq_append_getElem hlt, List.all_append]
                simp [List.getD, hlt]
              have HMEM : Hid (inB p (mod.getD k 0) = false → mod.all (inB p) = false) := fun h => by
                rw [List.all_eq_false]
                exact ⟨mod.getD k 0, by rw [List.getD_eq_getElem?_getD, List.getElem?_eq_getElem hlt]; exact List.getElem_mem hlt, by rw [h]; simp⟩
              generalize mod.getD k 0 = z at *
              by_cases h0 : z < 0
              · have HE := Lib.hid (HMEM.out (by unfold inB; rw [decide_eq_false (by omega)]; rfl))
                go_wp2_with fail
                go_ret
                exact ⟨ret_bool (by rw [HS.out, HE.out]), HBN.out⟩
              · by_cases h1 : z < p
                · have HE : Hid (inB p z = true) := by show _ = _; unfold inB; rw [decide_eq_true (by omega), decide_eq_true h1]; rfl
                  go_wp2_with fail
                  go_round
                  case rel => exact ⟨k + 1, by omega, by go_num, by rw [HTK.out, HALL.out, HE.out]; rfl⟩
                  case measure => simp [intOf]; omega
                · have HE := Lib.hid (HMEM.out (by unfold inB; rw [decide_eq_false h1, Bool.and_false]))
                  go_wp2_with fail
                  go_ret
                  exact ⟨ret_bool (by rw [HS.out, HE.out]), HBN.out⟩
            · go_wp2_with fail
              go_ret
              refine ⟨ret_bool ?_, HBN.out⟩
              have := HALL.out
              rw [List.take_of_length_le (by omega)] at this
              rw [HS.out, this]
        · have hlb : ((mod.length : Int) == (m : Int)) = false := by simp; omega
          have hlb2 : ((mod.length : Int) != (m : Int)) = true := by simp; omega
          have hlb3 : ¬ mod.length = m := hlen
          have HS : Hid (shapeM p m mod = false) := by show _ = _; rw [HSH2.out, hlb]; rfl
          clear HSH2 hlb hlen
          go_enter Tryz.func35, Tryz.ntmps35
          go_wp2_with (first | (go_at_call 37; refine (order_c _ _ _).mono ?_; rintro e w' ⟨rfl, rfl⟩) | (go_at_call 48; refine (HP.out _).mono ?_; rintro e w' ⟨rfl, rfl⟩))
          go_ret
          exact ⟨ret_bool HS.out.symm, HBN.out⟩
#print axioms shape_c
end Go.Proofs.YtcfejnnhcdlffaaGreat
