/-
  The reference's field: Inv.
-/
import Derived.Test.YtcfejnnhcdlffaaGreatRh
namespace Go.Proofs.YtcfejnnhcdlffaaGreat
open Go.RowKit Pln

def RelIn (w : World) (p m : Nat) (A : Option Addr) (n c : Nat) (mul : Nat → Nat → Nat) (x : Nat) (v5 : Value) (wr : World) : Prop :=
  ∃ y : Nat, 1 ≤ y ∧ y ≤ p ^ m ∧ v5 = .int .i64 (y : Int) ∧ refInv mul (p ^ m) x = invGo mul x (p ^ m - y) y ∧ SBoxF w p m A n c wr

set_option maxHeartbeats 1000000 in
set_option maxRecDepth 100000 in
theorem rinv_c (p m : Nat) (md : List Nat) (A : Option Addr) (n c x : Nat) (w : World) (hs : Small p m) (hmd : md.length = m) (hml : ∀ d ∈ md, d < p) (hM : 2 ≤ m → n = m ∧ IntsAt w w.heap.size A (nz md)) (hx : x < p ^ m) :
    Calls Tryz.prog 58 #[.agg #[.int .i64 p, .int .i64 m, .slice A n c], .int .i64 x] w fun e w' => e = .returned (.int .i64 ((refInv (refMul p m md) (p ^ m) x : Nat) : Int)) ∧ Below w.heap.size w w' := by
  have HX := Lib.hid (sboxf_new w p m A n c)
  have HO : Hid (∀ W : World, Calls Tryz.prog 26 #[.agg #[.int .i64 p, .int .i64 m, .slice A n c]] W fun e w' => e = .returned (.int .i64 ((p ^ m : Nat) : Int)) ∧ Below W.heap.size W w') := fun W => by
    have := rorder_c p m A n c W
    rw [orderM_nat hs.p1 hs.p2 hs.m1 hs.m2, if_neg (by have := hs.q; omega)] at this
    exact this
  have HMU : Hid (∀ (y : Nat) (W : World), y < p ^ m → Below w.heap.size w W → Calls Tryz.prog 96 #[.agg #[.int .i64 p, .int .i64 m, .slice A n c], .int .i64 x, .int .i64 y] W fun e w' => e = .returned (.int .i64 ((refMul p m md x y : Nat) : Int)) ∧ Below W.heap.size W w') := fun y W hy hW =>
    rmul_c p m md A n c x y W hs hmd hml (fun h => ⟨(hM h).1, ((hM h).2.keep hW).more hW.size⟩) hx hy
  have hq := hs.q
  have hq1 : 1 ≤ p ^ m := Nat.pow_pos (by have := hs.p1; omega)
  clear hs hmd hml hM hx
  generalize refMul p m md = mul at *
  go_enter Tryz.func58, Tryz.ntmps58
  go_upto_region 1 with fail
  generalize w.alloc (.cells #[.int .i64 (p : Int), .int .i64 (m : Int), .slice A n c] 24) = W0 at *
  have HS0 : Hid (RelIn w p m A n c mul x (.int .i64 ((1 : Nat) : Int)) W0) := ⟨1, Nat.le_refl _, hq1, rfl, rfl, HX.out⟩
  have HRI : Hid (∀ v wr, RelIn w p m A n c mul x v wr = ∃ y : Nat, 1 ≤ y ∧ y ≤ p ^ m ∧ v = .int .i64 (y : Int) ∧ refInv mul (p ^ m) x = invGo mul x (p ^ m - y) y ∧ SBoxF w p m A n c wr) := fun _ _ => rfl
  generalize hqe : p ^ m = q at *
  have HQE := Lib.hid hqe
  clear hqe
  go_wp2_with fail
  go_loopw [5] (fun v5 wr => RelIn w p m A n c mul x v5 wr) (fun v5 _ => q - (intOf v5).toNat)
  case atStart => exact HS0.out
  case round =>
    rw [HRI.out] at hrel
    obtain ⟨y, hy1, hyq, rfl, hinv, hx⟩ := hrel
    have HINV := Lib.hid hinv
    have HX1 := Lib.hid hx
    clear hinv hx HS0
    have HRG0 := Lib.hid HX1.out.range
    go_wp2_with (refine wpList_load_mid rfl 24 (.tmp 2) rfl w.heap.size 0 rfl [.int .i64 (p : Int), .int .i64 (m : Int), .slice A n c] _ HRG0.out Tryz.underlying24 rfl fieldSize ?_)
    (with_reducible refine (HO.out wr).mono ?_)
    rintro e w1 ⟨rfl, hb1⟩
    have HX2 := Lib.hid (HX1.out.grow hb1)
    clear hb1 HX1 HRG0
    by_cases hlt : y < q
    · have HRG0 := Lib.hid HX2.out.range
      have HC := Lib.hid (HMU.out y w1 hlt HX2.out.1)
      have HST : Hid (invGo mul x (q - y) y = if mul x y = 1 then y else invGo mul x (q - (y + 1)) (y + 1)) := by
        show _ = _
        rw [show q - y = (q - (y + 1)) + 1 by omega]
        rfl
      generalize mul x y = z at *
      go_wp2_with (refine wpList_load_mid rfl 24 (.tmp 2) rfl w.heap.size 0 rfl [.int .i64 (p : Int), .int .i64 (m : Int), .slice A n c] _ HRG0.out Tryz.underlying24 rfl fieldSize ?_)
      (with_reducible refine HC.out.mono ?_)
      rintro e w2 ⟨rfl, hb2⟩
      have HX3 := Lib.hid (HX2.out.grow hb2)
      clear hb2
      by_cases hz : z = 1
      · have HE : Hid (refInv mul q x = y) := by show _ = _; rw [HINV.out, HST.out, if_pos hz]
        have hzb : ((z : Int) == 1) = true := by rw [hz]; rfl
        clear hz HST
        go_wp2_with fail
        go_ret
        exact ⟨ret_int (by rw [HQE.out, HE.out]), HX3.out.1⟩
      · have HE : Hid (refInv mul q x = invGo mul x (q - (y + 1)) (y + 1)) := by show _ = _; rw [HINV.out, HST.out, if_neg hz]
        have hzb : ((z : Int) == 1) = false := by rw [beq_eq_false_iff_ne]; omega
        clear hz HST
        go_wp2_with fail
        go_roundw
        case rel => rw [HRI.out]; exact ⟨y + 1, by omega, by omega, by go_num, HE.out, HX3.out⟩
        case measure => simp [intOf]; omega
    · obtain rfl : y = q := by omega
      have HE : Hid (refInv mul y x = 0) := by show _ = _; rw [HINV.out, Nat.sub_self]; rfl
      go_wp2_with fail
      go_ret
      exact ⟨ret_int (by rw [HQE.out, HE.out]; rfl), HX2.out.1⟩
#print axioms rinv_c
end Go.Proofs.YtcfejnnhcdlffaaGreat
