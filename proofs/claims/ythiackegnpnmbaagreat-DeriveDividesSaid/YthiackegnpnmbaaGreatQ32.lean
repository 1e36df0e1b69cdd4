/-
  The reference's field: Inv. The reference's rows: scale, AddTo.
-/
import Derived.Test.YthiackegnpnmbaaGreatQ31
namespace Go.Proofs.YthiackegnpnmbaaGreat
open Go.RowKit Pln

def RelIn (w : World) (p m : Nat) (A : Option Addr) (n c : Nat) (mul : Nat → Nat → Nat) (x : Nat) (v5 : Value) (wr : World) : Prop :=
  ∃ y : Nat, 1 ≤ y ∧ y ≤ p ^ m ∧ v5 = .int .i64 (y : Int) ∧ refInv mul (p ^ m) x = invGo mul x (p ^ m - y) y ∧ SBoxF w p m A n c wr

set_option maxHeartbeats 1000000 in
set_option maxRecDepth 100000 in
theorem rinv_c (p m : Nat) (md : List Nat) (A : Option Addr) (n c x : Nat) (w : World) (hs : Small p m) (hmd : md.length = m) (hml : ∀ d ∈ md, d < p) (hM : 2 ≤ m → n = m ∧ IntsAt w w.heap.size A (nz md)) (hx : x < p ^ m) :
    Calls Tryz.prog 149 #[.agg #[.int .i64 p, .int .i64 m, .slice A n c], .int .i64 x] w fun e w' => e = .returned (.int .i64 ((refInv (refMul p m md) (p ^ m) x : Nat) : Int)) ∧ Below w.heap.size w w' := by
  have HX := Lib.hid (sboxf_new w p m A n c)
  have HO : Hid (∀ W : World, Calls Tryz.prog 33 #[.agg #[.int .i64 p, .int .i64 m, .slice A n c]] W fun e w' => e = .returned (.int .i64 ((p ^ m : Nat) : Int)) ∧ Below W.heap.size W w') := fun W => by
    have := rorder_c p m A n c W
    rw [orderM_nat hs.p1 hs.p2 hs.m1 hs.m2, if_neg (by have := hs.q; omega)] at this
    exact this
  have HMU : Hid (∀ (y : Nat) (W : World), y < p ^ m → Below w.heap.size w W → Calls Tryz.prog 90 #[.agg #[.int .i64 p, .int .i64 m, .slice A n c], .int .i64 x, .int .i64 y] W fun e w' => e = .returned (.int .i64 ((refMul p m md x y : Nat) : Int)) ∧ Below W.heap.size W w') := fun y W hy hW =>
    rmul_c p m md A n c x y W hs hmd hml (fun h => ⟨(hM h).1, ((hM h).2.keep hW).more hW.size⟩) hx hy
  have hq := hs.q
  have hq1 : 1 ≤ p ^ m := Nat.pow_pos (by have := hs.p1; omega)
  clear hs hmd hml hM hx
  generalize refMul p m md = mul at *
  go_enter Tryz.func149, Tryz.ntmps149
  go_upto_region 1 with fail
  generalize w.alloc (.cells #[.int .i64 (p : Int), .int .i64 (m : Int), .slice A n c] 27) = W0 at *
  have HS0 : Hid (RelIn w p m A n c mul x (.int .i64 ((1 : Nat) : Int)) W0) := ⟨1, Nat.le_refl _, hq1, rfl, rfl, HX.out⟩
  have HRI : Hid (∀ v wr, RelIn w p m A n c mul x v wr = ∃ y : Nat, 1 ≤ y ∧ y ≤ p ^ m ∧ v = .int .i64 (y : Int) ∧ refInv mul (p ^ m) x = invGo mul x (p ^ m - y) y ∧ SBoxF w p m A n c wr) := fun _ _ => rfl
  generalize hqe : p ^ m = q at *
  have HQE := Lib.hid hqe
  clear hqe
  go_wp2_with fail
  go_loopw [5] (fun v5 wr => RelIn w p m A n c mul x v5 wr) (fun v5 _ => q - (intOf v5).toNat)
  case atStart => exact HS0.out
  case round =>
    rw [HRI.out] at hrel
    obtain ⟨y, hy1, hyq, rfl, hinv, hx⟩ := hrel
    have HINV := Lib.hid hinv
    have HX1 := Lib.hid hx
    clear hinv hx HS0
    have HRG0 := Lib.hid HX1.out.range
    go_wp2_with (refine wpList_load_mid rfl 27 (.tmp 2) rfl w.heap.size 0 rfl [.int .i64 (p : Int), .int .i64 (m : Int), .slice A n c] _ HRG0.out Tryz.underlying27 rfl fieldSize ?_)
    (with_reducible refine (HO.out wr).mono ?_)
    rintro e w1 ⟨rfl, hb1⟩
    have HX2 := Lib.hid (HX1.out.grow hb1)
    clear hb1 HX1 HRG0
    by_cases hlt : y < q
    · have HRG0 := Lib.hid HX2.out.range
      have HC := Lib.hid (HMU.out y w1 hlt HX2.out.1)
      have HST : Hid (invGo mul x (q - y) y = if mul x y = 1 then y else invGo mul x (q - (y + 1)) (y + 1)) := by
        show _ = _
        rw [show q - y = (q - (y + 1)) + 1 by omega]
        rfl
      generalize mul x y = z at *
      go_wp2_with (refine wpList_load_mid rfl 27 (.tmp 2) rfl w.heap.size 0 rfl [.int .i64 (p : Int), .int .i64 (m : Int), .slice A n c] _ HRG0.out Tryz.underlying27 rfl fieldSize ?_)
      (with_reducible refine HC.out.mono ?_)
      rintro e w2 ⟨rfl, hb2⟩
      have HX3 := Lib.hid (HX2.out.grow hb2)
      clear hb2
      by_cases hz : z = 1
      · have HE : Hid (refInv mul q x = y) := by show _ = _; rw [HINV.out, HST.out, if_pos hz]
        have hzb : ((z : Int) == 1) = true := by rw [hz]; rfl
        clear hz HST
        go_wp2_with fail
        go_ret
        exact ⟨ret_int (by rw [HQE.out, HE.out]), HX3.out.1⟩
      · have HE : Hid (refInv mul q x = invGo mul x (q - (y + 1)) (y + 1)) := by show _ = _; rw [HINV.out, HST.out, if_neg hz]
        have hzb : ((z : Int) == 1) = false := by rw [beq_eq_false_iff_ne]; omega
        clear hz HST
        go_wp2_with fail
        go_roundw
        case rel => rw [HRI.out]; exact ⟨y + 1, by omega, by omega, by go_num, HE.out, HX3.out⟩
        case measure => simp [intOf]; omega
    · obtain rfl : y = q := by omega
      have HE : Hid (refInv mul y x = 0) := by show _ = _; rw [HINV.out, Nat.sub_self]; rfl
      go_wp2_with fail
      go_ret
      exact ⟨ret_int (by rw [HQE.out, HE.out]; rfl), HX2.out.1⟩
end Go.Proofs.YthiackegnpnmbaaGreat

namespace Go.Proofs.YthiackegnpnmbaaGreat
open Go.RowKit Pln

/-- A description of a field that is one, in memory. -/
structure RFld (p m : Nat) (md : List Nat) (A : Option Addr) (n : Nat) (B : Nat) (W : World) : Prop where
  small : Small p m
  len : md.length = m
  lt : ∀ d ∈ md, d < p
  mod : 2 ≤ m → n = m ∧ IntsAt W B A (nz md)
section
variable {p m : Nat} {md : List Nat} {A : Option Addr} {n c B : Nat} {W W' : World}
theorem RFld.keep (h : RFld p m md A n B W) (hb : Below B W W') : RFld p m md A n B W' := ⟨h.small, h.len, h.lt, fun h2 => ⟨(h.mod h2).1, (h.mod h2).2.keep hb⟩⟩
theorem RFld.more {B' : Nat} (h : RFld p m md A n B W) (hB : B ≤ B') : RFld p m md A n B' W := ⟨h.small, h.len, h.lt, fun h2 => ⟨(h.mod h2).1, (h.mod h2).2.more hB⟩⟩
theorem RFld.grow (h : RFld p m md A n W.heap.size W) (hb : Below W.heap.size W W') : RFld p m md A n W'.heap.size W' := (h.keep hb).more hb.size
theorem RFld.mul (h : RFld p m md A n W.heap.size W) {x y : Nat} (hx : x < p ^ m) (hy : y < p ^ m) (c : Nat) : Calls Tryz.prog 90 #[.agg #[.int .i64 p, .int .i64 m, .slice A n c], .int .i64 x, .int .i64 y] W fun e w' => e = .returned (.int .i64 (((refOps p m md).mul x y : Nat) : Int)) ∧ Below W.heap.size W w' :=
  rmul_c p m md A n c x y W h.small h.len h.lt h.mod hx hy
theorem RFld.add (h : RFld p m md A n B W) {x y : Nat} (hx : x < p ^ m) (hy : y < p ^ m) (c : Nat) : Calls Tryz.prog 89 #[.agg #[.int .i64 p, .int .i64 m, .slice A n c], .int .i64 x, .int .i64 y] W fun e w' => e = .returned (.int .i64 (((refOps p m md).add x y : Nat) : Int)) ∧ Below W.heap.size W w' :=
  radd_c p m A n c x y W h.small hx hy
theorem RFld.neg (h : RFld p m md A n B W) {x : Nat} (hx : x < p ^ m) (c : Nat) : Calls Tryz.prog 150 #[.agg #[.int .i64 p, .int .i64 m, .slice A n c], .int .i64 x] W fun e w' => e = .returned (.int .i64 (((refOps p m md).neg x : Nat) : Int)) ∧ Below W.heap.size W w' :=
  rneg_c p m A n c x W h.small hx
theorem RFld.inv (h : RFld p m md A n W.heap.size W) {x : Nat} (hx : x < p ^ m) (c : Nat) : Calls Tryz.prog 149 #[.agg #[.int .i64 p, .int .i64 m, .slice A n c], .int .i64 x] W fun e w' => e = .returned (.int .i64 (((refOps p m md).inv x : Nat) : Int)) ∧ Below W.heap.size W w' :=
  rinv_c p m md A n c x W h.small h.len h.lt h.mod hx
theorem RFld.mul_lt (h : RFld p m md A n B W) (x y : Nat) : (refOps p m md).mul x y < p ^ m := by
  show refMul p m md x y < p ^ m
  rw [refMul_eq (by have := h.small.p1; omega) h.small.m1 h.len]
  exact (mulM_mon (by have := h.small.p1; omega) h.small.m1 md).lt x y
end
/-- The first k places are those of r, the others 0. -/
def fK (r : List Nat) (k : Nat) : List Nat := r.take k ++ List.replicate (r.length - k) 0
theorem fK_len (r : List Nat) (k : Nat) (hk : k ≤ r.length) : (fK r k).length = r.length := by simp [fK]; omega
theorem fK_set (r : List Nat) (k : Nat) (hk : k < r.length) : (fK r k).set k (r.getD k 0) = fK r (k + 1) := by
  unfold fK
  have h : (r.take k).length = k := by rw [List.length_take]; omega
  rw [List.set_append_right _ _ (by omega), h, Nat.sub_self, show r.length - k = (r.length - (k + 1)) + 1 by omega, List.replicate_succ, List.set_cons_zero, List.take_succ_eq_append_getElem hk, List.append_assoc]
  simp [List.getD, hk]
theorem fK_end (r : List Nat) : fK r r.length = r := by
  unfold fK
  rw [List.take_length, Nat.sub_self, List.replicate_zero, List.append_nil]
/-- In the midst of a new row: the field's box, the row, the rows that are read. -/
def NRow (w : World) (p m : Int) (A : Option Addr) (n c go : Nat) (r : List Nat) (k : Nat) (Av : Option Addr) (v : List Nat) (Au : Option Addr) (u : List Nat) (wr : World) : Prop :=
  SBoxF w p m A n c wr ∧ Row wr (w.heap.size + 1) go r.length (nz (fK r k)) ∧ IntsAt wr w.heap.size Av (nz v) ∧ IntsAt wr w.heap.size Au (nz u)
theorem NRow.grow {w : World} {p m : Int} {A : Option Addr} {n c go : Nat} {r : List Nat} {k : Nat} {Av : Option Addr} {v : List Nat} {Au : Option Addr} {u : List Nat} {wr wx : World} (h : NRow w p m A n c go r k Av v Au u wr) (hb : Below wr.heap.size wr wx) : NRow w p m A n c go r k Av v Au u wx := by
  obtain ⟨h1, h2, h3, h4⟩ := h
  exact ⟨h1.grow hb, h2.below hb h2.lt.2, h3.keep (hb.mono (Nat.le_of_lt h1.2.1)), h4.keep (hb.mono (Nat.le_of_lt h1.2.1))⟩
theorem NRow.set {w : World} {p m : Int} {A : Option Addr} {n c go : Nat} {r : List Nat} {k : Nat} {Av : Option Addr} {v : List Nat} {Au : Option Addr} {u : List Nat} {wr : World} (h : NRow w p m A n c go r k Av v Au u wr) (hk : k < r.length) : NRow w p m A n c go r (k + 1) Av v Au u (wr.setCell ⟨go, k, none⟩ (.int .i64 ((r.getD k 0 : Nat) : Int))) := by
  obtain ⟨h1, h2, h3, h4⟩ := h
  have hgo := h2.lt.1
  have hb : Below w.heap.size wr (wr.setCell ⟨go, k, none⟩ (.int .i64 ((r.getD k 0 : Nat) : Int))) := (Below.refl _ _).setCell (p := ⟨go, k, none⟩) (by show w.heap.size ≤ go; omega) _
  refine ⟨h1.wrote hgo _, ?_, h3.keep hb, h4.keep hb⟩
  rw [← fK_set r k hk, ← nz_set]
  exact h2.set k _
def RelNR (w : World) (p m : Int) (A : Option Addr) (n c go : Nat) (r : List Nat) (Av : Option Addr) (v : List Nat) (Au : Option Addr) (u : List Nat) (v8 : Value) (wr : World) : Prop :=
  ∃ k : Nat, k ≤ r.length ∧ v8 = .int .i64 (k : Int) ∧ NRow w p m A n c go r k Av v Au u wr

set_option maxHeartbeats 1000000 in
set_option maxRecDepth 100000 in
theorem rscale_c (p m : Nat) (md : List Nat) (A : Option Addr) (n c a : Nat) (v : List Nat) (Av : Option Addr) (cv : Nat) (w : World) (hR : RFld p m md A n w.heap.size w) (ha : a < p ^ m) (hv : ∀ x ∈ v, x < p ^ m) (hA : IntsAt w w.heap.size Av (nz v)) (hl : v.length ≤ 1000) :
    Calls Tryz.prog 148 #[.agg #[.int .i64 p, .int .i64 m, .slice A n c], .int .i64 a, .slice Av v.length cv] w fun e w' => (∃ g, e = .returned (.slice (some ⟨g, 0, none⟩) v.length v.length) ∧ Row w' w.heap.size g v.length (nz (scaleRow (refOps p m md) a v))) ∧ Below w.heap.size w w' := by
  have HX := Lib.hid (sboxf_new w p m A n c)
  have HA := Lib.hid (hA.keep HX.out.1)
  have HMU : Hid (∀ (x : Nat) (W : World), x < p ^ m → Below w.heap.size w W → Calls Tryz.prog 90 #[.agg #[.int .i64 p, .int .i64 m, .slice A n c], .int .i64 a, .int .i64 x] W fun e w' => e = .returned (.int .i64 (((refOps p m md).mul a x : Nat) : Int)) ∧ Below W.heap.size W w') := fun x W hx hW => ((hR.keep hW).more hW.size).mul ha hx c
  have hrl : (scaleRow (refOps p m md) a v).length = v.length := by simp [scaleRow]
  have HRG : Hid (∀ k, k < v.length → (scaleRow (refOps p m md) a v).getD k 0 = (refOps p m md).mul a (v.getD k 0)) := fun k hk => by
    have e1 : v[k]? = some (v.getD k 0) := by simp [List.getD, hk]
    unfold scaleRow
    rw [List.getD_eq_getElem?_getD, List.getElem?_map, e1]
    rfl
  have HV : Hid (∀ k, k < v.length → v.getD k 0 < p ^ m) := fun k hk => by
    have : v.getD k 0 = v[k] := by simp [List.getD, hk]
    rw [this]
    exact hv _ (List.getElem_mem hk)
  obtain ⟨i0, hi, hz0, hz1, hz2⟩ := info_parts infoInt
  have HI := Lib.hid hi
  have HZ0 := Lib.hid hz0
  have HZ1 := Lib.hid hz1
  have HB2 := Lib.hid (show i0.bytes * v.length ≤ 281474976710656 by rw [hz2]; omega)
  have HB3 := Lib.hid (show v.length ≤ maxLen by unfold maxLen; omega)
  have HRLN := Lib.hid hrl
  clear hi hz0 hz1 hz2 hR hA hv hrl ha
  generalize scaleRow (refOps p m md) a v = r at *
  generalize (refOps p m md).mul a = f at *
  go_enter Tryz.func148, Tryz.ntmps148
  go_upto_region 1 with fail
  have hsz0 : w.heap.size + 1 ≤ (w.alloc (.cells #[.int .i64 (p : Int), .int .i64 (m : Int), .slice A n c] 27)).heap.size := by simp
  generalize w.alloc (.cells #[.int .i64 (p : Int), .int .i64 (m : Int), .slice A n c] 27) = W0 at *
  go_wp2_with (refine wpList_make_full W0 rfl (.tmp 10) (.tmp 10) 23 rfl (w.heap.size + 1) 3 i0 (.int .i64 0) 1 Tryz.underlying23 HI.out HZ0.out HZ1.out .i64 .i64 v.length v.length v.length rfl rfl rfl rfl HB2.out HB3.out hsz0 ?_; intro w1 hown hgr)
  have hb1 := below_of_grown hgr
  have hr1 := Row.of_make hown
  have HS0 : Hid (RelNR w p m A n c W0.heap.size r Av v none [] (.int .i64 ((0 : Nat) : Int)) w1) := ⟨0, Nat.zero_le _, rfl, HX.out.grow hb1, by rw [HRLN.out]; unfold fK; rw [List.take_zero, List.nil_append, HRLN.out]; exact hr1, HA.out.keep (hb1.mono (by omega)), fun h => by simp [nz] at h⟩
  clear hown hgr hb1 hr1 hsz0 HX HA HI HZ0 HZ1 HB2 HB3
  generalize W0.heap.size = go at *
  go_wp2_with fail
  go_loopw [8] (fun v8 wr => RelNR w p m A n c go r Av v none [] v8 wr) (fun v8 _ => v.length - (intOf v8).toNat)
  case atStart => exact HS0.out
  case round =>
    obtain ⟨k, hk, rfl, hn⟩ := hrel
    have HN := Lib.hid hn
    clear hn HS0
    rw [HRLN.out] at hk
    by_cases hlt : k < v.length
    · obtain ⟨b, o, rfl, hbl, hc⟩ := HN.out.2.2.1.at_ (k := k) (by rw [nz_len]; exact hlt)
      have HGT := Lib.hid (HRG.out k hlt)
      have hxq := HV.out k hlt
      have k0 : (0 : Int) ≤ (k : Int) := by omega
      have k1 : (k : Int) < (v.length : Int) := by omega
      have HCL : Hid (∀ W, NRow w p m A n c go r k (some ⟨b, o, none⟩) v none [] W → Calls Tryz.prog 90 #[.agg #[.int .i64 p, .int .i64 m, .slice A n c], .int .i64 a, .int .i64 ((v.getD k 0 : Nat) : Int)] W fun e w' => e = .returned (.int .i64 ((r.getD k 0 : Nat) : Int)) ∧ NRow w p m A n c go r k (some ⟨b, o, none⟩) v none [] w') := fun W hW => by
        have := HMU.out (v.getD k 0) W hxq hW.1.1
        rw [← HGT.out] at this
        exact this.mono fun e w' ⟨he, hb⟩ => ⟨he, hW.grow hb⟩
      have HVC : Hid (∀ W, NRow w p m A n c go r k (some ⟨b, o, none⟩) v none [] W → W.cell? ⟨b, o + k, none⟩ = some (.int .i64 ((v.getD k 0 : Nat) : Int))) := fun W hW => by
        obtain ⟨b', o', e, _, h⟩ := hW.2.2.1.at_ (k := k) (by rw [nz_len]; exact hlt)
        injection e with e
        injection e with e1 e2
        subst e1 e2
        rw [nz_getD] at h
        exact h
      have HSET : Hid (∀ wr, NRow w p m A n c go r k (some ⟨b, o, none⟩) v none [] wr → NRow w p m A n c go r (k + 1) (some ⟨b, o, none⟩) v none [] (wr.setCell ⟨go, k, none⟩ (.int .i64 ((r.getD k 0 : Nat) : Int)))) := fun wr h => h.set (by rw [HRLN.out]; exact hlt)
      clear hc hxq
      generalize r.getD k 0 = z at *
      generalize v.getD k 0 = xv at *
      go_upto_region 5 with fail
      refine wp_region_keep_tail 10 (NRow w p m A n c go r k (some ⟨b, o, none⟩) v none []) (by kernel_rfl) (by kernel_rfl) (HN.out.grow (Below.refl _ _).drew) ?_
      simp only [List.take_succ_cons, List.take_zero, List.drop_succ_cons, List.drop_zero]
      repeat (first
        | (refine keep_load_mid rfl 27 (.tmp 3) rfl w.heap.size 0 rfl [.int .i64 (p : Int), .int .i64 (m : Int), .slice A n c] _ (fun W hW => hW.1.range) Tryz.underlying27 rfl fieldSize ?_
           go_simp)
        | (apply keep_val rfl
           · intro W hS
             have yv := HVC.out W hS
             go_simp
             rfl
           go_simp)
        | (apply keep_call rfl
           · intro W hS
             go_simp
             exact ⟨rfl, rfl⟩
           · intro W hS
             exact HCL.out W hS
           go_simp))
      refine wpKeep_nil ?_
      intro w2 hS2
      have HS2 := Lib.hid hS2
      have f0 := hS2.2.1.frozen k
      have c0 := hS2.2.1.cell (j := k) (by rw [nz_len, fK_len r k (by rw [HRLN.out]; omega), HRLN.out]; exact hlt)
      clear hS2
      go_wp2_with fail
      go_roundw
      case rel => exact ⟨k + 1, by rw [HRLN.out]; omega, by go_num, HSET.out _ HS2.out⟩
      case measure => simp [intOf]; omega
    · obtain rfl : k = v.length := by omega
      have HRR : Hid (Row wr w.heap.size go v.length (nz r)) := by
        have := HN.out.2.1
        rw [← HRLN.out, fK_end] at this
        rw [← HRLN.out]
        exact this.base (by have := this.lt; omega)
      go_wp2_with fail
      go_ret
      exact ⟨⟨go, rfl, HRR.out⟩, HN.out.1.1⟩
end Go.Proofs.YthiackegnpnmbaaGreat

