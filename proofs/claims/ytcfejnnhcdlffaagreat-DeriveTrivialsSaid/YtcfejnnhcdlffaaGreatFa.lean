/-
  The program's field: the order, primes, digits and values.
-/
import Derived.Test.YtcfejnnhcdlffaaGreatKit
import Derived.Test.YtcfejnnhcdlffaaGreatPlM
import Derived.Test.YtcfejnnhcdlffaaGreatProg
import Derived.Test.YtcfejnnhcdlffaaGreatStable
import Derived.WalkLawsBesides
import Derived.WalkSpells
import Derived.LoopTactic
import Derived.Outline
import Derived.KernelRfl
import Derived.Lib.Hide
import Derived.Deep.LoopGhost
namespace Go.Proofs.YtcfejnnhcdlffaaGreat
open Go.RowKit

/-- The order of the field, 0 if it is out of range. -/
def orderM (p m : Int) : Int := if p < 2 ∨ 256 < p ∨ m < 1 ∨ 8 < m then 0 else if 256 < p.toNat ^ m.toNat then 0 else ((p.toNat ^ m.toNat : Nat) : Int)
theorem orderM_zero {p m : Int} (h : p < 2 ∨ 256 < p ∨ m < 1 ∨ 8 < m) : orderM p m = 0 := by unfold orderM; rw [if_pos h]
theorem orderM_nat {p m : Nat} (hp : 2 ≤ p) (hp2 : p ≤ 256) (hm : 1 ≤ m) (hm2 : m ≤ 8) : orderM p m = if 256 < p ^ m then 0 else ((p ^ m : Nat) : Int) := by
  unfold orderM
  rw [if_neg (by omega)]
  rfl
theorem pow_le_mono {p k m : Nat} (hp : 2 ≤ p) (h : k ≤ m) : p ^ k ≤ p ^ m := Nat.pow_le_pow_right (by omega) h

set_option maxHeartbeats 1000000 in
theorem order_c (p m : Int) (w : World) : Calls Tryz.prog 37 #[.int .i64 p, .int .i64 m] w fun e w' => e = .returned (.int .i64 (orderM p m)) ∧ w = w' := by
  by_cases h1 : p < 2
  · have HZ := Lib.hid (orderM_zero (p := p) (m := m) (.inl h1))
    go_enter Tryz.func37, Tryz.ntmps37
    go_wp2_with fail
    go_ret
    exact ⟨ret_int HZ.out.symm, rfl⟩
  · by_cases h2 : 256 < p
    · have HZ := Lib.hid (orderM_zero (p := p) (m := m) (.inr (.inl h2)))
      go_enter Tryz.func37, Tryz.ntmps37
      go_wp2_with fail
      go_ret
      exact ⟨ret_int HZ.out.symm, rfl⟩
    · by_cases h3 : m < 1
      · have HZ := Lib.hid (orderM_zero (p := p) (m := m) (.inr (.inr (.inl h3))))
        go_enter Tryz.func37, Tryz.ntmps37
        go_wp2_with fail
        go_ret
        exact ⟨ret_int HZ.out.symm, rfl⟩
      · by_cases h4 : 8 < m
        · have HZ := Lib.hid (orderM_zero (p := p) (m := m) (.inr (.inr (.inr h4))))
          go_enter Tryz.func37, Tryz.ntmps37
          go_wp2_with fail
          go_ret
          exact ⟨ret_int HZ.out.symm, rfl⟩
        · obtain ⟨p, rfl⟩ := Int.eq_ofNat_of_zero_le (by omega : 0 ≤ p)
          obtain ⟨m, rfl⟩ := Int.eq_ofNat_of_zero_le (by omega : 0 ≤ m)
          have hp : 2 ≤ p := by omega
          have hp2 : p ≤ 256 := by omega
          have hm : 1 ≤ m := by omega
          have hm2 : m ≤ 8 := by omega
          have HM := Lib.hid (orderM_nat hp hp2 hm hm2)
          go_enter Tryz.func37, Tryz.ntmps37
          go_wp2_with fail
          go_loop [5, 21] (fun a i => ∃ k : Nat, k ≤ m ∧ p ^ k ≤ 256 ∧ i = .int .i64 k ∧ a = .int .i64 ((p ^ k : Nat) : Int)) (fun _ i => m - (intOf i).toNat)
          case atStart => exact ⟨0, by omega, by simp, rfl, by simp⟩
          case round =>
            obtain ⟨k, hk, hq, rfl, rfl⟩ := hrel
            by_cases hlt : k < m
            · have HS : Hid (p ^ (k + 1) = p ^ k * p) := Nat.pow_succ _ _
              have HL := Lib.hid (pow_le_mono hp (show k + 1 ≤ m by omega))
              generalize p ^ k = q at *
              have hb : (q : Int) * (p : Int) ≤ 65536 := by
                have : q * p ≤ 256 * 256 := Nat.mul_le_mul hq hp2
                have h2 : ((q * p : Nat) : Int) = (q : Int) * (p : Int) := Int.natCast_mul _ _
                omega
              have hb0 : 0 ≤ (q : Int) * (p : Int) := Int.mul_nonneg (by omega) (by omega)
              by_cases hc : 256 < (q : Int) * (p : Int)
              · go_wp2_with fail
                go_ret
                refine ⟨ret_int ?_, rfl⟩
                rw [HM.out, if_pos]
                have h1 := HL.out
                rw [HS.out] at h1
                have h2 : ((q * p : Nat) : Int) = (q : Int) * (p : Int) := Int.natCast_mul _ _
                omega
              · go_wp2_with fail
                go_round
                case rel => exact ⟨k + 1, by omega, by rw [HS.out]; have h2 : ((q * p : Nat) : Int) = (q : Int) * (p : Int) := Int.natCast_mul _ _; omega, by go_num, by rw [HS.out, Int.natCast_mul]⟩
                case measure => simp [intOf]; omega
            · obtain rfl : k = m := by omega
              generalize hqq : p ^ k = q at *
              clear hqq
              go_wp2_with fail
              go_ret
              exact ⟨ret_int (by rw [HM.out, if_neg (by omega)]), rfl⟩
#print axioms order_c

/-- Whether n is prime. -/
def primeP (n : Nat) : Bool := Nat.ble 2 n && Pln.primeB n
theorem primeP_iff (n : Nat) : primeP n = true ↔ (2 ≤ n ∧ ∀ d, 2 ≤ d → d * d ≤ n → n % d ≠ 0) := by
  unfold primeP Pln.primeB
  rw [Bool.and_eq_true, Nat.ble_eq, List.all_eq_true]
  constructor
  · rintro ⟨h1, h2⟩
    refine ⟨h1, fun d hd hdd hz => ?_⟩
    have hlt : d < n := by
      have : 2 * d ≤ d * d := Nat.mul_le_mul_right d hd
      omega
    have := h2 d (List.mem_range.2 hlt)
    simp only [Bool.or_eq_true, Nat.blt_eq, bne_iff_ne, ne_eq] at this
    rcases this with h | h
    · omega
    · exact h hz
  · rintro ⟨h1, h2⟩
    refine ⟨h1, fun d hd => ?_⟩
    have hlt := List.mem_range.1 hd
    simp only [Bool.or_eq_true, Nat.blt_eq, bne_iff_ne, ne_eq]
    by_cases h3 : d < 2
    · exact .inl h3
    · refine .inr fun hz => ?_
      by_cases h4 : d * d ≤ n
      · exact h2 d (by omega) h4 hz
      · have e : n = d * (n / d) := by have := Nat.div_add_mod n d; omega
        generalize n / d = t at e
        have ht : t < d := by
          refine Nat.lt_of_not_le fun hge => ?_
          have := Nat.mul_le_mul_left d hge
          omega
        have ht2 : 2 ≤ t := by
          rcases t with _ | _ | t
          · omega
          · omega
          · omega
        have h5 : t * t ≤ n := by rw [e]; exact Nat.mul_le_mul_right t (by omega)
        exact h2 t ht2 h5 (by rw [e]; exact Nat.mul_mod_left d t)
theorem primeP_false {n : Nat} (h : ¬ (2 ≤ n ∧ ∀ d, 2 ≤ d → d * d ≤ n → n % d ≠ 0)) : primeP n = false := by
  rw [← Bool.not_eq_true, primeP_iff]
  exact h
set_option maxHeartbeats 1000000 in
theorem isPrime_c (n : Nat) (hn : n ≤ 256) (w : World) : Calls Tryz.prog 48 #[.int .i64 n] w fun e w' => e = .returned (.bool (primeP n)) ∧ w = w' := by
  go_enter Tryz.func48, Tryz.ntmps48
  go_wp2_with fail
  go_loop [3] (fun i => ∃ d : Nat, 2 ≤ d ∧ d ≤ 257 ∧ i = .int .i64 d ∧ ∀ e, 2 ≤ e → e < d → e * e ≤ n → n % e ≠ 0) (fun i => 300 - (intOf i).toNat)
  case atStart => exact ⟨2, by omega, by omega, rfl, fun e h1 h2 => by omega⟩
  case round =>
    obtain ⟨d, hd, hd2, rfl, hno⟩ := hrel
    have HNO := Lib.hid hno
    clear hno
    have hb : (d : Int) * (d : Int) ≤ 66049 := by
      have : d * d ≤ 257 * 257 := Nat.mul_le_mul hd2 hd2
      have h2 : ((d * d : Nat) : Int) = (d : Int) * (d : Int) := Int.natCast_mul _ _
      omega
    have hb0 : 0 ≤ (d : Int) * (d : Int) := Int.mul_nonneg (by omega) (by omega)
    have hself : d ≤ d * d := Nat.le_mul_of_pos_left d (by omega)
    have hcast : ((d * d : Nat) : Int) = (d : Int) * (d : Int) := Int.natCast_mul _ _
    have HC := Lib.hid hcast
    clear hcast
    by_cases hc : (d : Int) * (d : Int) ≤ (n : Int)
    · have hdn : d * d ≤ n := by have := HC.out; omega
      by_cases hz : (n : Int) % (d : Int) = 0
      · have HZ := Lib.hid hz
        have hzb : ((n : Int) % (d : Int) == 0) = true := by rw [hz]; rfl
        clear hz
        go_wp2_with fail
        go_ret
        refine ⟨ret_bool ?_, rfl⟩
        refine (primeP_false ?_).symm
        rintro ⟨_, h⟩
        exact h d hd hdn (by have := HZ.out; omega)
      · have HZ := Lib.hid hz
        have hzb : ((n : Int) % (d : Int) == 0) = false := by simpa using hz
        clear hz
        go_wp2_with fail
        go_round
        case rel => exact ⟨d + 1, by omega, by omega, by go_num, fun e h1 h2 h3 => by
          by_cases he : e = d
          · subst he
            have := HZ.out
            omega
          · exact HNO.out e h1 (by omega) h3⟩
        case measure => simp [intOf]; omega
    · by_cases h2 : 2 ≤ n
      · go_wp2_with fail
        go_ret
        refine ⟨ret_bool ?_, rfl⟩
        refine Eq.trans ?_ ((primeP_iff n).2 ⟨h2, fun e h3 h4 => ?_⟩).symm
        · simp; omega
        · have hcs := HC.out
          refine HNO.out e h3 ?_ h4
          refine Nat.lt_of_not_le fun hge => ?_
          have : d * d ≤ e * e := Nat.mul_le_mul hge hge
          omega
      · go_wp2_with fail
        go_ret
        refine ⟨ret_bool ?_, rfl⟩
        refine Eq.trans ?_ (primeP_false (fun h3 => absurd h3.1 h2)).symm
        simp; omega
#print axioms isPrime_c
end Go.Proofs.YtcfejnnhcdlffaaGreat
