/-
  derive: the trivial step follows.
-/
import Derived.Test.YtcfejnnhcdlffaaGreatGu
namespace Go.Proofs.YtcfejnnhcdlffaaGreat
open Go.RowKit Pln

theorem premises_zero (w : World) : Calls Tryz.prog 33 #[.int .i64 0] w fun e w' => e = .returned (.int .i64 0) ∧ w = w' := by
  go_enter Tryz.func33, Tryz.ntmps33
  go_wp2_with fail
  go_ret
  exact ⟨rfl, rfl⟩
/-- The box of a step. -/
def SB (w : World) (b : Nat) (cs : List Value) (W : World) : Prop := W.heap[b]? = some (.cells cs.toArray 42 (0, 0)) ∧ Below w.heap.size w W ∧ w.heap.size ≤ b ∧ b < W.heap.size
section
variable {w : World} {b : Nat} {cs : List Value} {W W' : World}
theorem SB.grow (h : SB w b cs W) (hb : Below W.heap.size W W') : SB w b cs W' := by
  obtain ⟨h1, h2, h3, h4⟩ := h
  exact ⟨(hb.block _ h4).trans h1, h2.trans (hb.mono (by omega)), h3, Nat.lt_of_lt_of_le h4 hb.size⟩
theorem SB.cell (h : SB w b cs W) {k : Nat} {v : Value} (hv : cs[k]? = some v) : W.cell? ⟨b, k, none⟩ = some v := by
  rw [cell_of_row W b k _ _ _ h.1]
  simpa using hv
theorem SB.range (h : SB w b cs W) : W.rangeAt b 0 cs := range_of_row h.1
theorem SB.sub (h : SB w b cs W) (o : Nat) (ds : List Value) (hd : ∀ j, j < ds.length → cs[o + j]? = ds[j]?) : W.rangeAt b o ds := fun j v hv => by
  have hj : j < ds.length := (List.getElem?_eq_some_iff.1 hv).1
  have h1 := hd j hj
  rw [hv] at h1
  have := range_of_row h.1 (o + j) v h1
  rw [Nat.zero_add] at this
  exact this
end
theorem sb_new (w : World) (cs : List Value) : SB w w.heap.size cs (w.alloc (.cells cs.toArray 42)) := ⟨heap_alloc_new _ _, (Below.refl _ _).alloc (Nat.le_refl _) _, Nat.le_refl _, by simp⟩

set_option maxHeartbeats 1000000 in
set_option maxRecDepth 100000 in
theorem formed_c (p m : Int) (mod : List Int) (A1 : Option Addr) (c1 : Nat) (N : Int) (zs : List (List Int)) (A2 : Option Addr) (c2 : Nat) (low : Int) (w : World) (hM : IntsAt w w.heap.size A1 mod) (hl : mod.length ≤ 9223372036854775807)
    (hA : RowsAt w w.heap.size A2 zs) (hlz : zs.length ≤ 9223372036854775807) (hz : codeZ p m mod N zs = 0) (hN : 1 ≤ N) (hN2 : N ≤ 64) (h1 : 1 ≤ low) (h2 : low ≤ N + 1) :
    Calls Tryz.prog 32 #[.agg (stepV p m A1 mod.length c1 N A2 zs.length c2 low).toArray] w fun e w' => e = .returned (.int .i64 0) ∧ Below w.heap.size w w' := by
  have HX := Lib.hid (sb_new w (stepV p m A1 mod.length c1 N A2 zs.length c2 low))
  have HM := Lib.hid hM
  have HA := Lib.hid hA
  have HZ := Lib.hid hz
  clear hM hA hz
  go_enter Tryz.func32, Tryz.ntmps32
  go_upto_region 1 with fail
  generalize w.alloc (.cells (stepV p m A1 mod.length c1 N A2 zs.length c2 low).toArray 42) = W0 at *
  have HRG : Hid (W0.rangeAt w.heap.size 1 [.int .i64 p, .int .i64 m, .slice A1 mod.length c1, .int .i64 N, .slice A2 zs.length c2]) := HX.out.sub 1 _ (fun j hj => by rcases j with _ | _ | _ | _ | _ | j <;> first | rfl | (simp at hj; omega))
  have HC : Hid (Calls Tryz.prog 10 #[.agg #[.int .i64 p, .int .i64 m, .slice A1 mod.length c1, .int .i64 N, .slice A2 zs.length c2]] W0 fun e w' => e = .returned (.int .i64 0) ∧ Below W0.heap.size W0 w') := by
    have := codecheck_c p m mod A1 c1 N zs A2 c2 W0 ((HM.out.keep HX.out.2.1).more HX.out.2.1.size) hl ((HA.out.keep HX.out.2.1).more HX.out.2.1.size) hlz
    rw [HZ.out] at this
    exact this
  clear HM HA HZ
  go_wp2_with (refine wpList_load_mid rfl 27 (.tmp 4) rfl w.heap.size 1 rfl [.int .i64 p, .int .i64 m, .slice A1 mod.length c1, .int .i64 N, .slice A2 zs.length c2] _ HRG.out Tryz.underlying27 rfl codeSize ?_)
  (with_reducible refine HC.out.mono ?_)
  rintro e w1 ⟨rfl, hb1⟩
  have HX1 := Lib.hid (HX.out.grow hb1)
  clear hb1 HX HC HRG
  clear W0
  have y6 : w1.cell? ⟨w.heap.size, 6, none⟩ = some (.int .i64 low) := HX1.out.cell rfl
  have y4 : w1.cell? ⟨w.heap.size, 4, none⟩ = some (.int .i64 N) := HX1.out.cell rfl
  go_wp2_with fail
  go_ret
  exact ⟨rfl, HX1.out.2.1⟩
#print axioms formed_c

set_option maxHeartbeats 1000000 in
set_option maxRecDepth 100000 in
theorem itself_c (p m : Int) (n1 : Nat) (A1 : Option Addr) (c1 : Nat) (N : Int) (n2 : Nat) (A2 : Option Addr) (c2 : Nat) (low : Int) (w : World) (h : low = 1 ∨ n2 = 0) :
    Calls Tryz.prog 43 #[.agg (stepV p m A1 n1 c1 N A2 n2 c2 low).toArray] w fun e w' => e = .returned (.bool true) ∧ Below w.heap.size w w' := by
  have HX := Lib.hid (sb_new w (stepV p m A1 n1 c1 N A2 n2 c2 low))
  go_enter Tryz.func43, Tryz.ntmps43
  go_upto_region 1 with fail
  generalize w.alloc (.cells (stepV p m A1 n1 c1 N A2 n2 c2 low).toArray 42) = W0 at *
  have y0 : W0.cell? ⟨w.heap.size, 0, none⟩ = some (.int .i64 0) := HX.out.cell rfl
  have y6 : W0.cell? ⟨w.heap.size, 6, none⟩ = some (.int .i64 low) := HX.out.cell rfl
  have y5 : W0.cell? ⟨w.heap.size, 5, none⟩ = some (.slice A2 n2 c2) := HX.out.cell rfl
  by_cases hl : low = 1
  · have hlb : (low == 1) = true := by simp [hl]
    clear h hl
    go_wp2_with fail
    go_ret
    exact ⟨rfl, HX.out.2.1⟩
  · have hlb : (low == 1) = false := by simp [hl]
    have hnb : ((n2 : Int) == 0) = true := by simp; omega
    clear h hl
    go_wp2_with fail
    go_ret
    exact ⟨rfl, HX.out.2.1⟩
#print axioms itself_c

set_option maxHeartbeats 1000000 in
set_option maxRecDepth 100000 in
theorem follows_c (p m : Int) (n1 : Nat) (A1 : Option Addr) (c1 : Nat) (N : Int) (n2 : Nat) (A2 : Option Addr) (c2 : Nat) (low : Int) (w : World) (h : low = 1 ∨ n2 = 0) :
    Calls Tryz.prog 34 #[.agg (stepV p m A1 n1 c1 N A2 n2 c2 low).toArray, .slice none 0 0] w fun e w' => e = .returned (.bool true) ∧ Below w.heap.size w w' := by
  have HX := Lib.hid (sb_new w (stepV p m A1 n1 c1 N A2 n2 c2 low))
  go_enter Tryz.func34, Tryz.ntmps34
  go_upto_region 1 with fail
  generalize w.alloc (.cells (stepV p m A1 n1 c1 N A2 n2 c2 low).toArray 42) = W0 at *
  have HRG := Lib.hid HX.out.range
  have HC := Lib.hid (itself_c p m n1 A1 c1 N n2 A2 c2 low W0 h)
  clear h
  go_wp2_with (refine wpList_load_mid rfl 42 (.tmp 2) rfl w.heap.size 0 rfl (stepV p m A1 n1 c1 N A2 n2 c2 low) _ HRG.out Tryz.underlying42 rfl stepSize ?_)
  (with_reducible refine HC.out.mono ?_)
  rintro e w1 ⟨rfl, hb1⟩
  have HX1 := Lib.hid (HX.out.grow hb1)
  clear hb1
  go_wp2_with fail
  go_ret
  exact ⟨rfl, HX1.out.2.1⟩
#print axioms follows_c

set_option maxHeartbeats 1000000 in
set_option maxRecDepth 100000 in
theorem checkstep_c (p m : Int) (mod : List Int) (A1 : Option Addr) (c1 : Nat) (N : Int) (zs : List (List Int)) (A2 : Option Addr) (c2 : Nat) (low : Int) (b cc : Nat) (w : World) (hM : IntsAt w w.heap.size A1 mod) (hl : mod.length ≤ 9223372036854775807)
    (hA : RowsAt w w.heap.size A2 zs) (hlz : zs.length ≤ 9223372036854775807) (hz : codeZ p m mod N zs = 0) (hN : 1 ≤ N) (hN2 : N ≤ 64) (h1 : 1 ≤ low) (h2 : low ≤ N + 1) (h : low = 1 ∨ zs.length = 0)
    (hb : w.heap[b]? = some (.cells (stepV p m A1 mod.length c1 N A2 zs.length c2 low).toArray 42 (0, 0))) :
    Calls Tryz.prog 19 #[.slice (some ⟨b, 0, none⟩) 1 cc, .int .i64 0] w fun e w' => e = .returned (.int .i64 0) ∧ Below w.heap.size w w' := by
  have HX := Lib.hid (sb_new w (stepV p m A1 mod.length c1 N A2 zs.length c2 low))
  have HM := Lib.hid hM
  have HA := Lib.hid hA
  have HZ := Lib.hid hz
  have HH := Lib.hid h
  have HRB := Lib.hid (range_of_row hb)
  have hbl := block_lt hb
  clear hM hA hz h hb
  go_enter Tryz.func19, Tryz.ntmps19
  go_upto_region 6 with (first
    | (refine wpList_load_mid rfl 42 (.tmp 25) rfl b 0 rfl (stepV p m A1 mod.length c1 N A2 zs.length c2 low) _ HRB.out Tryz.underlying42 rfl stepSize ?_)
    | (refine wpList_store_new rfl 42 (.tmp 5) (.tmp 26) rfl w _ (stepV p m A1 mod.length c1 N A2 zs.length c2 low).toArray rfl rfl stepSize rfl (by simp [stepV, Value.oneCell']) ?_))
  generalize w.alloc (.cells (stepV p m A1 mod.length c1 N A2 zs.length c2 low).toArray 42) = W0 at *
  have HRG := Lib.hid HX.out.range
  have HC := Lib.hid (formed_c p m mod A1 c1 N zs A2 c2 low W0 ((HM.out.keep HX.out.2.1).more HX.out.2.1.size) hl ((HA.out.keep HX.out.2.1).more HX.out.2.1.size) hlz HZ.out hN hN2 h1 h2)
  clear HM HA HZ
  go_wp2_with (refine wpList_load_mid rfl 42 (.tmp 5) rfl w.heap.size 0 rfl (stepV p m A1 mod.length c1 N A2 zs.length c2 low) _ HRG.out Tryz.underlying42 rfl stepSize ?_)
  (with_reducible refine HC.out.mono ?_)
  rintro e w1 ⟨rfl, hb1⟩
  have HX1 := Lib.hid (HX.out.grow hb1)
  clear hb1 HX HC HRG
  clear W0
  have y0 : w1.cell? ⟨w.heap.size, 0, none⟩ = some (.int .i64 0) := HX1.out.cell rfl
  go_upto_region 11 with fail
  clear y0
  refine wp_region_keep (SB w w.heap.size (stepV p m A1 mod.length c1 N A2 zs.length c2 low)) (by kernel_rfl) (by kernel_rfl) (HX1.out.grow (Below.refl _ _).drew) ?_
  repeat (first
    | (apply keep_val rfl
       · intro W hS
         have y0 : W.cell? ⟨w.heap.size, 0, none⟩ = some (.int .i64 0) := hS.cell rfl
         have y7 : W.cell? ⟨w.heap.size, 7, none⟩ = some (.slice none 0 0) := hS.cell rfl
         go_simp
         rfl
       go_simp)
    | (apply keep_gval rfl
       · intro W hS
         have y0 : W.cell? ⟨w.heap.size, 0, none⟩ = some (.int .i64 0) := hS.cell rfl
         go_simp
         rfl
       go_simp)
    | (apply keep_call rfl
       · intro W hS
         go_simp
         exact ⟨rfl, rfl⟩
       · intro W hS
         exact (premises_zero W).mono (by rintro e w' ⟨rfl, rfl⟩; exact ⟨rfl, hS⟩)
       go_simp)
    | (apply keep_not rfl; go_simp))
  refine wpKeep_nil ?_
  intro w2 hS
  have HX2 := Lib.hid hS
  clear hS HX1
  have y7 : w2.cell? ⟨w.heap.size, 7, none⟩ = some (.slice none 0 0) := HX2.out.cell rfl
  have HRG := Lib.hid HX2.out.range
  have HF := Lib.hid (follows_c p m mod.length A1 c1 N zs.length A2 c2 low w2 HH.out)
  go_wp2_with fail
  go_loop [7, 66] (fun v7 v66 => v66 = .int .i64 0 ∧ v7 = .slice none 0 0) (fun _ _ => 0)
  case atStart => exact ⟨rfl, rfl⟩
  case round =>
    obtain ⟨rfl, rfl⟩ := hrel
    go_wp2_with fail
    go_loop [87] (fun v87 => v87 = .int .i64 0) (fun _ => 0)
    case atStart => exact rfl
    case round =>
      obtain rfl := hrel
      go_wp2_with (refine wpList_load_mid rfl 42 (.tmp 5) rfl w.heap.size 0 rfl (stepV p m A1 mod.length c1 N A2 zs.length c2 low) _ HRG.out Tryz.underlying42 rfl stepSize ?_)
      (with_reducible refine HF.out.mono ?_)
      rintro e w3 ⟨rfl, hb3⟩
      have HX3 := Lib.hid (HX2.out.grow hb3)
      clear hb3
      go_wp2_with fail
      go_ret
      exact ⟨rfl, HX3.out.2.1⟩
#print axioms checkstep_c

set_option maxHeartbeats 1000000 in
set_option maxRecDepth 100000 in
theorem dcheck_c (p m : Int) (mod : List Int) (A1 : Option Addr) (c1 : Nat) (N : Int) (zs : List (List Int)) (A2 : Option Addr) (c2 : Nat) (low : Int) (b cc : Nat) (w : World) (hM : IntsAt w w.heap.size A1 mod) (hl : mod.length ≤ 9223372036854775807)
    (hA : RowsAt w w.heap.size A2 zs) (hlz : zs.length ≤ 9223372036854775807) (hz : codeZ p m mod N zs = 0) (hN : 1 ≤ N) (hN2 : N ≤ 64) (h1 : 1 ≤ low) (h2 : low ≤ N + 1) (h : low = 1 ∨ zs.length = 0)
    (hb : w.heap[b]? = some (.cells (stepV p m A1 mod.length c1 N A2 zs.length c2 low).toArray 42 (0, 0))) :
    Calls Tryz.prog 8 #[.slice (some ⟨b, 0, none⟩) 1 cc] w fun e w' => e = .returned (.int .i64 0) ∧ Below w.heap.size w w' := by
  have HC := Lib.hid (checkstep_c p m mod A1 c1 N zs A2 c2 low b cc w hM hl hA hlz hz hN hN2 h1 h2 h hb)
  clear hM hA hz h hb
  go_enter Tryz.func8, Tryz.ntmps8
  go_wp2_with fail
  go_loopw [10] (fun v10 wr => (v10 = .int .i64 0 ∧ wr = w) ∨ (v10 = .int .i64 1 ∧ Below w.heap.size w wr)) (fun v10 _ => 1 - (intOf v10).toNat)
  case atStart => exact .inl ⟨rfl, rfl⟩
  case round =>
    rcases hrel with ⟨rfl, rfl⟩ | ⟨rfl, hb⟩
    · go_wp2_with fail
      (with_reducible refine HC.out.mono ?_)
      rintro e w1 ⟨rfl, hb1⟩
      have HB1 := Lib.hid hb1
      clear hb1
      go_wp2_with fail
      go_roundw
      case rel => exact .inr ⟨by go_num, HB1.out⟩
      case measure => simp [intOf]
    · have HB1 := Lib.hid hb
      clear hb
      go_wp2_with fail
      go_ret
      exact ⟨rfl, HB1.out⟩
#print axioms dcheck_c
end Go.Proofs.YtcfejnnhcdlffaaGreat
