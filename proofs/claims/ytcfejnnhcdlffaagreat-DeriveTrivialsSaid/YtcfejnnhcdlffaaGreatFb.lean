/-
  The program's field: digits and values.
-/
import Derived.Test.YtcfejnnhcdlffaaGreatMem
namespace Go.Proofs.YtcfejnnhcdlffaaGreat
open Go.RowKit Pln

theorem digs_snoc (p : Nat) : ∀ k x, digs p (k + 1) x = digs p k x ++ [x / p ^ k % p]
  | 0, x => by simp [digs]
  | k + 1, x => by
    have := digs_snoc p k (x / p)
    rw [digs, this]
    simp only [digs, List.cons_append]
    rw [Nat.div_div_eq_div_mul, Nat.pow_succ, Nat.mul_comm p]
def dgK (p m x k : Nat) : List Nat := digs p k x ++ List.replicate (m - k) 0
theorem dgK_set (p m x k : Nat) (hk : k < m) : (dgK p m x k).set k (x / p ^ k % p) = dgK p m x (k + 1) := by
  unfold dgK
  rw [digs_snoc]
  rw [List.set_append_right _ _ (by rw [digs_len]; exact Nat.le_refl _), digs_len, Nat.sub_self, show m - k = (m - (k + 1)) + 1 by omega, List.replicate_succ]
  simp
theorem dgK_len (p m x k : Nat) (hk : k ≤ m) : (dgK p m x k).length = m := by simp [dgK, digs_len]; omega
def RelDig (w : World) (p m x : Nat) (v0 v13 : Value) (wr : World) : Prop :=
  ∃ k, k ≤ m ∧ v0 = .int .i64 ((x / p ^ k : Nat) : Int) ∧ v13 = .int .i64 k ∧ Row wr w.heap.size w.heap.size m (nz (dgK p m x k)) ∧ Below w.heap.size w wr

set_option maxHeartbeats 1000000 in
theorem digitsOf_c (x p m : Nat) (w : World) (hx : x ≤ 1000000000) (hp : 1 ≤ p) (hp2 : p ≤ 1000000000) (hm : m ≤ 1000) :
    Calls Tryz.prog 92 #[.int .i64 x, .int .i64 p, .int .i64 m] w fun e w' => e = .returned (.slice (some ⟨w.heap.size, 0, none⟩) m m) ∧ Row w' w.heap.size w.heap.size m (nz (digs p m x)) ∧ Below w.heap.size w w' := by
  obtain ⟨i0, hi, hz0, hz1, hz2⟩ := info_parts infoInt
  have HI := Lib.hid hi
  have HZ0 := Lib.hid hz0
  have HZ1 := Lib.hid hz1
  have HB2 := Lib.hid (show i0.bytes * m ≤ 281474976710656 by rw [hz2]; omega)
  have HB3 := Lib.hid (show m ≤ maxLen by unfold maxLen; omega)
  clear hi hz0 hz1 hz2
  go_enter Tryz.func92, Tryz.ntmps92
  go_wp2_with (refine wpList_make_full w rfl (.tmp 9) (.tmp 9) 22 rfl w.heap.size 3 i0 (.int .i64 0) 1 Tryz.underlying22 HI.out HZ0.out HZ1.out .i64 .i64 m m m rfl rfl rfl rfl HB2.out HB3.out (Nat.le_refl _) ?_; intro w1 hown hgr)
  have HR := Lib.hid (Row.of_make hown)
  have HB := Lib.hid (below_of_grown hgr)
  clear hown hgr
  go_loopw [0, 13] (fun v0 v13 wr => RelDig w p m x v0 v13 wr) (fun _ v13 _ => m - (intOf v13).toNat)
  case atStart => exact ⟨0, by omega, by simp, rfl, HR.out, HB.out⟩
  case round =>
    obtain ⟨k, hk, rfl, rfl, hrow, hb⟩ := hrel
    have HR2 := Lib.hid hrow
    have HB2' := Lib.hid hb
    have hf := hrow.frozen k
    have HD : Hid (x / p ^ (k + 1) = x / p ^ k / p) := by rw [Nat.pow_succ, ← Nat.div_div_eq_div_mul]; rfl
    have hdx : x / p ^ k ≤ 1000000000 := Nat.le_trans (Nat.div_le_self _ _) hx
    have HS := Lib.hid (fun h => dgK_set p m x k h)
    have HLEN := Lib.hid (dgK_len p m x k hk)
    by_cases hlt : k < m
    · have hc := hrow.cell (j := k) (by rw [nz_len, HLEN.out]; exact hlt)
      clear hrow hb HR HB
      generalize x / p ^ k = y at *
      have hq0 : 0 ≤ (y : Int) / (p : Int) := Int.ediv_nonneg (by omega) (by omega)
      have hq1 : (y : Int) / (p : Int) ≤ (y : Int) := Int.ediv_le_self _ (by omega)
      go_wp2_with fail
      go_roundw
      case rel =>
        refine ⟨k + 1, by omega, by rw [HD.out]; go_num, by go_num, ?_, (HB2'.out.setCell (Nat.le_refl _) _)⟩
        rw [← HS.out hlt, ← nz_set]
        exact HR2.out.set k _
      case measure => simp [intOf]; omega
    · obtain rfl : k = m := by omega
      clear hrow hb HR HB
      generalize x / p ^ k = y at *
      go_wp2_with fail
      go_ret
      refine ⟨rfl, ?_, HB2'.out⟩
      have := HR2.out
      unfold dgK at this
      rw [Nat.sub_self, List.replicate_zero, List.append_nil] at this
      exact this
#print axioms digitsOf_c

theorem val_drop (p : Nat) (l : List Nat) (k : Nat) (hk : k < l.length) : val p (l.drop k) = val p (l.drop (k + 1)) * p + l.getD k 0 := by
  rw [List.drop_eq_getElem_cons hk, val, Nat.mul_comm, Nat.add_comm]
  simp [List.getD, hk]
theorem val_drop_lt {p : Nat} (hp : 0 < p) {l : List Nat} (hl : ∀ d ∈ l, d < p) (k : Nat) : val p (l.drop k) < p ^ (l.length - k) := by
  have := val_lt hp (l.drop k) (fun d hd => hl d (List.mem_of_mem_drop hd))
  rwa [List.length_drop] at this

set_option maxHeartbeats 1000000 in
theorem valueOf_c (A : Option Addr) (l : List Nat) (c p : Nat) (w : World) (hA : IntsAt w w.heap.size A (nz l)) (hp : 1 ≤ p) (hl : ∀ d ∈ l, d < p) (hq : p ^ l.length ≤ 1000000000) (hp2 : p ≤ 1000000000) (hll : l.length ≤ 1000) :
    Calls Tryz.prog 93 #[.slice A l.length c, .int .i64 p] w fun e w' => e = .returned (.int .i64 ((val p l : Nat) : Int)) ∧ w = w' := by
  have HA := Lib.hid hA
  have HL := Lib.hid hl
  clear hA hl
  go_enter Tryz.func93, Tryz.ntmps93
  go_wp2_with fail
  go_loop [5, 6] (fun v5 v6 => ∃ k : Nat, k ≤ l.length ∧ v6 = .int .i64 ((k : Int) - 1) ∧ v5 = .int .i64 ((val p (l.drop k) : Nat) : Int)) (fun _ v6 => (intOf v6 + 1).toNat)
  case atStart => exact ⟨l.length, Nat.le_refl _, rfl, by simp [val]⟩
  case round =>
    obtain ⟨k, hk, rfl, rfl⟩ := hrel
    rcases k with _ | k
    · go_wp2_with fail
      go_ret
      exact ⟨ret_int (by simp), rfl⟩
    · obtain ⟨b, o, rfl, hlt, hc⟩ := HA.out.at_ (k := k) (by rw [nz_len]; omega)
      rw [nz_getD] at hc
      have HV := Lib.hid (val_drop p l k (by omega))
      have hv1 := val_drop_lt hp HL.out k
      have hv2 : p ^ (l.length - k) ≤ p ^ l.length := Nat.pow_le_pow_right hp (by omega)
      have hv3 : val p (l.drop k) ≤ 1000000000 := by omega
      have hv0 : val p (l.drop (k + 1)) * p + l.getD k 0 ≤ 1000000000 := by rw [← HV.out]; exact hv3
      generalize val p (l.drop (k + 1)) = y at *
      generalize l.getD k 0 = z at *
      have hm1 : (y : Int) * (p : Int) + (z : Int) ≤ 1000000000 := by
        have : ((y * p + z : Nat) : Int) = (y : Int) * (p : Int) + (z : Int) := by rw [Int.natCast_add, Int.natCast_mul]
        omega
      have hm0 : 0 ≤ (y : Int) * (p : Int) := Int.mul_nonneg (by omega) (by omega)
      have hk1 : ((k + 1 : Nat) : Int) - 1 = (k : Int) := by omega
      rw [hk1]
      clear hv1 hv2 hv3 hv0
      go_wp2_with fail
      go_round
      case rel => exact ⟨k, by omega, rfl, by rw [HV.out, Int.natCast_add, Int.natCast_mul]⟩
      case measure => simp [intOf]
theorem valueOf_n (A : Option Addr) (l : List Nat) (n c p : Nat) (w : World) (hA : IntsAt w w.heap.size A (nz l)) (hp : 1 ≤ p) (hl : Pln.Dig p n l) (hq : p ^ n ≤ 1000000000) (hp2 : p ≤ 1000000000) (hll : n ≤ 1000) :
    Calls Tryz.prog 93 #[.slice A n c, .int .i64 p] w fun e w' => e = .returned (.int .i64 ((val p l : Nat) : Int)) ∧ w = w' := by
  obtain ⟨rfl, h2⟩ := hl
  exact valueOf_c A l c p w hA hp h2 hq hp2 hll
#print axioms valueOf_c
end Go.Proofs.YtcfejnnhcdlffaaGreat
