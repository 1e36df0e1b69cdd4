/-
  The reference's number: the decimal numeral of every int; no memory is made.
-/
import Derived.Test.YtgnggmknbajmcaaDoorProg
import Derived.Test.YtgnggmknbajmcaaDoorKit
import Derived.Lib.ItoaNum
import Derived.Lib.ItoaMem
import Derived.Lib.ItoaLen
import Derived.KernelRfl
namespace Go.Proofs.YtgnggmknbajmcaaDoor
open Go.RowKit

theorem encode_digit (d : Nat) (h : d < 10) : Utf8.encode (48 + (d : Int)) = ⟨#[UInt8.ofNat (48 + d)]⟩ := by
  have hv : Utf8.valid (48 + (d : Int)) = true := by unfold Utf8.valid; simp; omega
  unfold Utf8.encode
  have ht : (48 + (d : Int)).toNat = 48 + d := by omega
  simp only [hv, if_true, ht]
  rw [if_pos (by omega)]
theorem encode_size (d : Int) : (Utf8.encode d).size ≤ 4 := by
  unfold Utf8.encode
  dsimp only
  generalize (if Utf8.valid d = true then d.toNat else Utf8.runeError) = c
  split
  · show 1 ≤ 4; omega
  · split
    · show 2 ≤ 4; omega
    · split
      · show 3 ≤ 4; omega
      · show 4 ≤ 4; omega
theorem tdiv10_neg (n : Int) (h : n ≤ 0) : n.tdiv 10 = -((-n) / 10) := by
  rw [← Int.tdiv_eq_ediv_of_nonneg (by omega), Int.neg_tdiv, Int.neg_neg]
theorem tmod10_neg (n : Int) (h : n ≤ 0) : n.tmod 10 = -((-n) % 10) := by
  rw [← Int.tmod_eq_emod_of_nonneg (by omega), Int.neg_tmod, Int.neg_neg]
theorem itoa_big (n : Int) (h : 10 ≤ n) : Lib.itoa n = Lib.itoa (n / 10) ++ [UInt8.ofNat (48 + (n % 10).toNat)] := by
  unfold Lib.itoa
  rw [if_neg (by omega), if_neg (by omega), Lib.decDigits, dif_neg (by omega)]
  rw [show n.toNat / 10 = (n / 10).toNat by omega, show n.toNat % 10 = (n % 10).toNat by omega]
theorem itoa_small (n : Int) (h0 : 0 ≤ n) (h : n < 10) : Lib.itoa n = [UInt8.ofNat (48 + n.toNat)] := by
  unfold Lib.itoa
  rw [if_neg (by omega), Lib.decDigits, dif_pos (by omega)]
theorem itoa_nsmall (n : Int) (h0 : n < 0) (h : -10 < n) : Lib.itoa n = [45, UInt8.ofNat (48 + (-n).toNat)] := by
  unfold Lib.itoa
  rw [if_pos (by omega), Lib.decDigits, dif_pos (by omega), show n.natAbs = (-n).toNat by omega]
theorem itoa_nbig (n : Int) (h : n ≤ -10) : Lib.itoa n = Lib.itoa (n.tdiv 10) ++ [UInt8.ofNat (48 + (-(n.tmod 10)).toNat)] := by
  rw [tdiv10_neg n (by omega), tmod10_neg n (by omega)]
  unfold Lib.itoa
  rw [if_pos (by omega), if_pos (by omega), Lib.decDigits, dif_neg (by omega)]
  rw [show n.natAbs / 10 = (-(-n / 10)).natAbs by omega, show n.natAbs % 10 = (- -(-n % 10)).toNat by omega]
  rfl
theorem str_append (l : List UInt8) (d : Nat) (h : d < 10) : (⟨l.toArray⟩ : ByteArray) ++ Utf8.encode (48 + (d : Int)) = ⟨(l ++ [UInt8.ofNat (48 + d)]).toArray⟩ := by
  rw [encode_digit d h]
  apply ByteArray.ext
  simp

theorem enc_eq (x : Int) (d : Nat) (h : d < 10) (hx : x = 48 + (d : Int)) : Utf8.encode x = ⟨[UInt8.ofNat (48 + d)].toArray⟩ := by
  subst hx
  exact encode_digit d h
set_option maxHeartbeats 1000000 in
theorem number_any (k : Nat) : ∀ (n : Int) (w : World), n.natAbs ≤ k → -9223372036854775808 ≤ n → n ≤ 9223372036854775807 →
    Calls Tryd.prog 9 #[.int .i64 n] w fun e w' => e = .returned (.string ⟨(Lib.itoa n).toArray⟩) ∧ w = w' := by
  induction k with
  | zero =>
    intro n w hk h0 h1
    have h8 : ¬ n < 0 := by omega
    have h9 : n < 10 := by omega
    go_enter Tryd.func9, Tryd.ntmps9
    go_wp2_with fail
    go_ret
    refine ⟨ret_str ?_, rfl⟩
    rw [itoa_small _ (by omega) h9]
    exact enc_eq _ _ (by omega) (by omega)
  | succ k ih =>
    intro n w hk h0 h1
    have IH := Lib.hid ih
    clear ih
    by_cases hneg : n < 0
    · by_cases hs : -10 < n
      · have hq : (n.tdiv 10 == 0) = true := by
          rw [beq_iff_eq, tdiv10_neg n (by omega)]; omega
        have he := encode_size (48 - n)
        go_enter Tryd.func9, Tryd.ntmps9
        go_wp2_with fail
        go_ret
        refine ⟨ret_str ?_, rfl⟩
        rw [itoa_nsmall n hneg hs, enc_eq (48 - n) (-n).toNat (by omega) (by omega)]
        exact ba_append [45] _
      · have hq : (n.tdiv 10 == 0) = false := by
          rw [beq_eq_false_iff_ne, tdiv10_neg n (by omega)]; omega
        have he := encode_size (48 - n.tmod 10)
        have hd := tdiv10_neg n (by omega)
        have hd1 : -9223372036854775808 ≤ n.tdiv 10 := by omega
        have hd2 : n.tdiv 10 ≤ 9223372036854775807 := by omega
        have hd3 : (n.tdiv 10).natAbs ≤ k := by omega
        have hm := tmod10_neg n (by omega)
        have hm1 : -9 ≤ n.tmod 10 := by omega
        have hm2 : n.tmod 10 ≤ 0 := by omega
        have hl := Lib.itoa_length_le (n.tdiv 10) hd1 hd2
        have HM := Lib.hid hm
        clear hd hm
        go_enter Tryd.func9, Tryd.ntmps9
        go_wp2_with (go_at_call 9; refine (IH.out _ _ hd3 hd1 hd2).mono ?_; rintro e w' ⟨rfl, rfl⟩)
        go_ret
        refine ⟨ret_str ?_, rfl⟩
        rw [itoa_nbig n (by omega), enc_eq (48 - n.tmod 10) (-n.tmod 10).toNat (by omega) (by omega)]
        exact ba_append _ _
    · by_cases hs : n < 10
      · go_enter Tryd.func9, Tryd.ntmps9
        go_wp2_with fail
        go_ret
        refine ⟨ret_str ?_, rfl⟩
        rw [itoa_small _ (by omega) hs]
        exact enc_eq _ _ (by omega) (by omega)
      · have he := encode_size (48 + n % 10)
        have hl := Lib.itoa_length_le (n / 10) (by omega) (by omega)
        go_enter Tryd.func9, Tryd.ntmps9
        go_wp2_with (go_at_call 9; refine (IH.out _ _ (by omega) (by omega) (by omega)).mono ?_; rintro e w' ⟨rfl, rfl⟩)
        go_ret
        refine ⟨ret_str ?_, rfl⟩
        rw [itoa_big n (by omega), enc_eq (48 + n % 10) (n % 10).toNat (by omega) (by omega)]
        exact ba_append _ _

#print axioms number_any
end Go.Proofs.YtgnggmknbajmcaaDoor
