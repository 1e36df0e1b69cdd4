/-
  The program's field: the first primitive element's powers.
-/
import Derived.Test.YtcfejnnhcdlffaaGreatFe
import Derived.Deep.QuietTactic
import Derived.BigQuiet
namespace Go.Proofs.YtcfejnnhcdlffaaGreat
open Go.RowKit Pln

/-- A list that may be nil. -/
def GenV (w : World) (B : Nat) (v : Value) (l : List Nat) : Prop := (l = [] ∧ v = .slice none 0 0) ∨ (l ≠ [] ∧ OwnI w B v (nz l))
def RelG (w W0 : World) (q : Nat) (mul : Nat → Nat → Nat) (g : Nat) (v5 : Value) (wr : World) : Prop :=
  ∃ x : Nat, 1 ≤ x ∧ x + g = q ∧ v5 = .int .i64 x ∧ genGo mul q (q - x) x = genM mul q ∧ Below (w.heap.size + 1) W0 wr
def CutG (w W0 : World) (l : List Nat) (b : Bool) (v6 v31 : Value) (wr : World) : Prop := v31 = .bool b ∧ OwnI wr (w.heap.size + 1) v6 (nz l) ∧ Below (w.heap.size + 1) W0 wr

set_option maxHeartbeats 1000000 in
set_option maxRecDepth 100000 in
theorem generator_c (p m : Nat) (A : Option Addr) (n c : Nat) (md : List Nat) (w : World) (hs : Small p m) (hM : ModAt w w.heap.size m A n md) (hmd : ∀ d ∈ md, d < p) :
    Calls Tryz.prog 36 #[.agg #[.int .i64 p, .int .i64 m, .slice A n c], .int .i64 ((p ^ m : Nat) : Int)] w fun e w' => (∃ v, e = .returned v ∧ GenV w' w.heap.size v (genM (mulM p m md) (p ^ m))) ∧ Below w.heap.size w w' := by
  have HMON := Lib.hid (mulM_mon (p := p) (m := m) (by have := hs.p1; omega) hs.m1 md)
  have hq1 := HMON.out.q1
  have hq2 := hs.q
  have HCM : Hid (∀ x y W, x < p ^ m → y < p ^ m → w.heap.size ≤ W.heap.size → Below w.heap.size w W → Calls Tryz.prog 50 #[.agg #[.int .i64 p, .int .i64 m, .slice A n c], .int .i64 ((x : Nat) : Int), .int .i64 ((y : Nat) : Int)] W fun e w' => e = .returned (.int .i64 ((mulM p m md x y : Nat) : Int)) ∧ Below W.heap.size W w') :=
    fun x y W hx hy hsz hb => multiply_c p m x y A n c md W hs ((hM.keep hb).more hsz) hmd hx hy
  have HCP : Hid (∀ x W, x < p ^ m → w.heap.size ≤ W.heap.size → Below w.heap.size w W → Calls Tryz.prog 49 #[.agg #[.int .i64 p, .int .i64 m, .slice A n c], .int .i64 ((p ^ m : Nat) : Int), .int .i64 ((x : Nat) : Int)] W fun e w' => (∃ v, e = .returned v ∧ OwnI w' W.heap.size v (nz (powers (mulM p m md) (p ^ m) x))) ∧ Below W.heap.size W w') :=
    fun x W hx hsz hb => powers_c p m x A n c md W hs ((hM.keep hb).more hsz) hmd hx
  clear hs hM hmd
  generalize hmu : mulM p m md = mul at *
  clear hmu
  generalize hqq : p ^ m = q at *
  clear hqq
  go_enter Tryz.func36, Tryz.ntmps36
  go_wp2_with fail
  have HW0 : Hid ((w.alloc (.cells #[.int .i64 p, .int .i64 m, .slice A n c] 24)).heap.size = w.heap.size + 1) := by show _ = _; simp
  have HBLK : Hid ((w.alloc (.cells #[.int .i64 p, .int .i64 m, .slice A n c] 24)).heap[w.heap.size]? = some (.cells [.int .i64 p, .int .i64 m, .slice A n c].toArray 24 (0, 0))) := heap_alloc_new _ _
  have HB0 : Hid (Below w.heap.size w (w.alloc (.cells #[.int .i64 p, .int .i64 m, .slice A n c] 24))) := (Below.refl _ _).alloc (Nat.le_refl _) _
  generalize w.alloc (.cells #[.int .i64 p, .int .i64 m, .slice A n c] 24) = W0 at *
  go_loopg [5] (q - 1) (fun g v5 wr => RelG w W0 q mul g v5 wr)
  case atStart => exact ⟨1, Nat.le_refl _, by omega, rfl, rfl, Below.refl _ _⟩
  case round =>
    obtain ⟨x, hx1, hxg, rfl, hge, hbel⟩ := hrel
    have HGE := Lib.hid hge
    have HBEL := Lib.hid hbel
    have HFIN : Hid (Below w.heap.size w wr) := HB0.out.trans (hbel.mono (Nat.le_succ _))
    have hwr : w.heap.size ≤ wr.heap.size := by have := hbel.size; have := HW0.out; omega
    clear hge hbel
    by_cases hlt : x < q
    · have HRG : Hid (wr.rangeAt w.heap.size 0 [.int .i64 p, .int .i64 m, .slice A n c]) := range_of_row ((HBEL.out.block _ (Nat.lt_succ_self _)).trans HBLK.out)
      go_wp2_with (refine wpList_load_mid rfl 24 (.tmp 2) rfl w.heap.size 0 rfl [.int .i64 p, .int .i64 m, .slice A n c] _ HRG.out Tryz.underlying24 rfl fieldSize ?_)
      (with_reducible refine (HCP.out x wr hlt hwr HFIN.out).mono ?_)
      rintro e w1 ⟨⟨v, rfl, hown⟩, hb1⟩
      obtain ⟨g, c', rfl, hrow⟩ := hown
      have hg1 := hrow.lt
      have HBEL1 := Lib.hid (HBEL.out.trans (hb1.mono (by have := HBEL.out.size; have := HW0.out; omega)))
      have HROW := Lib.hid (hrow.base (B' := w.heap.size + 1) (by have := HBEL.out.size; have := HW0.out; omega))
      obtain ⟨kk, hgood, hk1, hpw⟩ := powers_spec HMON.out hlt
      have HPW := Lib.hid hpw
      have HLLT : Hid (∀ j, (powers mul q x).getD j 0 < q) := fun j => by
        rw [hpw]
        unfold pl
        simp only [List.getD, List.getElem?_map]
        cases (List.range kk)[j]? with
        | none => simp; omega
        | some i => exact pw_lt HMON.out x i
      have HSTEP : Hid (genGo mul q (q - x) x = if (powers mul q x).length = q - 1 ∧ mul ((powers mul q x).getD (q - 2) 0) x = 1 then powers mul q x else genGo mul q (q - (x + 1)) (x + 1)) := by
        show _ = _
        rw [show q - x = (q - (x + 1)) + 1 by omega]
        rfl
      clear hrow hb1 hpw hgood HRG HBEL HFIN
      generalize hll : powers mul q x = l at *
      clear hll
      rw [nz_len]
      go_upto_region 5 with fail
      have hw1 : w.heap.size ≤ w1.heap.size := by have := HBEL1.out.size; have := HW0.out; omega
      have z0 : w1.cell? ⟨w.heap.size, 0, none⟩ = some (.int .i64 p) := (HBEL1.out.cell (p := ⟨w.heap.size, 0, none⟩) (by show w.heap.size < _; omega)).trans (cell_of_row _ _ 0 _ _ _ HBLK.out)
      have z1 : w1.cell? ⟨w.heap.size, 1, none⟩ = some (.int .i64 m) := (HBEL1.out.cell (p := ⟨w.heap.size, 1, none⟩) (by show w.heap.size < _; omega)).trans (cell_of_row _ _ 1 _ _ _ HBLK.out)
      have z2 : w1.cell? ⟨w.heap.size, 2, none⟩ = some (.slice A n c) := (HBEL1.out.cell (p := ⟨w.heap.size, 2, none⟩) (by show w.heap.size < _; omega)).trans (cell_of_row _ _ 2 _ _ _ HBLK.out)
      have hlb : w.heap.size < w1.heap.size := by have := HBEL1.out.size; have := HW0.out; omega
      go_cut [31] (fun v31 wx => CutG w W0 l (decide (l.length = q - 1 ∧ mul (l.getD (q - 2) 0) x = 1)) (.slice (some ⟨g, 0, none⟩) l.length c') v31 wx)
      case first =>
        by_cases hl : l.length = q - 1
        · have hl2 : ((l.length : Int) == (q : Int) - 1) = true := by simp; omega
          have hl3 : (l.length : Int) = (q : Int) - 1 := by omega
          have HL3 := Lib.hid hl3
          have HDEC : Hid (decide (l.length = q - 1 ∧ mul (l.getD (q - 2) 0) x = 1) = decide (mul (l.getD (q - 2) 0) x = 1)) := by show _ = _; rw [decide_eq_decide]; exact ⟨fun h => h.2, fun h => ⟨hl, h⟩⟩
          have hrc : w1.cell? ⟨g, q - 2, none⟩ = some (.int .i64 ((l.getD (q - 2) 0 : Nat) : Int)) := by rw [← nz_getD]; exact HROW.out.cell (by rw [nz_len]; omega)
          have hyl := HLLT.out (q - 2)
          have hgl := hg1.2
          have t0 : (0 : Int) ≤ (q : Int) - 2 := by omega
          have t1 : (q : Int) - 2 < (l.length : Int) := by omega
          have t2 : ((q : Int) - 2).toNat = q - 2 := by omega
          have t3 : (2 : Int) ≤ (q : Int) := by omega
          have HL := Lib.hid hl
          clear hl hl3
          generalize hye : l.getD (q - 2) 0 = y at *
          clear hye
          have HCD := Lib.hid (HCM.out y x w1.drew hyl hlt (show w.heap.size ≤ w1.drew.heap.size from hw1) (HB0.out.trans (HBEL1.out.mono (Nat.le_succ _))).drew)
          have e1 : IntKind.i64.wrap ((q : Int) - 1) = (q : Int) - 1 := IntWalk.i64_in _ (by omega)
          have e2 : IntKind.i64.wrap ((q : Int) - 2) = (q : Int) - 2 := IntWalk.i64_in _ (by omega)
          go_region_held3 (fun w' => w'.cell? ⟨w.heap.size, 0, none⟩ = some (.int .i64 p) ∧ w'.cell? ⟨w.heap.size, 1, none⟩ = some (.int .i64 m) ∧ w'.cell? ⟨w.heap.size, 2, none⟩ = some (.slice A n c) ∧ w'.cell? ⟨g, q - 2, none⟩ = some (.int .i64 (y : Int)))
            (first | go_keep | (go_split_ands; exact ⟨(hbd.cell (p := ⟨w.heap.size, 0, none⟩) hlb).trans (by assumption), (hbd.cell (p := ⟨w.heap.size, 1, none⟩) hlb).trans (by assumption), (hbd.cell (p := ⟨w.heap.size, 2, none⟩) hlb).trans (by assumption), (hbd.cell (p := ⟨g, q - 2, none⟩) hgl).trans (by assumption)⟩))
            (first | ((with_reducible refine HCD.out.mono ?_); rintro e w2 ⟨rfl, hbd⟩))
          have hbd2 : Below w1.heap.size w1 w2 := ⟨hbd.os, hbd.tape, hbd.output, hbd.size, hbd.block⟩
          have HY : Hid (CutG w W0 l (decide (l.length = q - 1 ∧ mul y x = 1)) (.slice (some ⟨g, 0, none⟩) l.length c') (.bool (((mul y x : Nat) : Int) == 1)) w2) := by
            refine ⟨?_, ⟨g, c', by rw [nz_len], HROW.out.below hbd2 hgl⟩, HBEL1.out.trans (hbd2.mono hlb)⟩
            rw [HDEC.out]
            congr 1
            by_cases h : mul y x = 1
            · simp [h]
            · simp [h]
              omega
          clear e1 e2 z0 z1 z2 hbd hbd2
          go_wp2_with fail
          go_meet
          exact HY.out
        · have HX : Hid (decide (l.length = q - 1 ∧ mul (l.getD (q - 2) 0) x = 1) = false) := decide_eq_false (fun h => hl h.1)
          have hl2 : ((l.length : Int) == (q : Int) - 1) = false := by simp; omega
          have hl3 : ¬ (l.length : Int) = (q : Int) - 1 := by omega
          have e1 : IntKind.i64.wrap ((q : Int) - 1) = (q : Int) - 1 := IntWalk.i64_in _ (by omega)
          go_quiet (fail)
          have HY : Hid (CutG w W0 l (decide (l.length = q - 1 ∧ mul (l.getD (q - 2) 0) x = 1)) (.slice (some ⟨g, 0, none⟩) l.length c') (.bool false) (w1.drewN nq)) :=
            ⟨by rw [HX.out], ⟨g, c', by rw [nz_len], HROW.out⟩, below_drewN HBEL1.out nq⟩
          clear e1 z0 z1 z2
          go_wp2_with fail
          go_meet
          exact HY.out
      case rest =>
        obtain ⟨rfl, ⟨g', c2, he, hr⟩, hb⟩ := hcut
        have HR := Lib.hid hr
        have HB := Lib.hid hb
        have HE := Lib.hid he
        clear hr hb he z0 z1 z2
        by_cases hd : l.length = q - 1 ∧ mul (l.getD (q - 2) 0) x = 1
        · have HG1 : Hid (genM mul q = l) := by show _ = _; rw [← HGE.out, HSTEP.out, if_pos hd]
          have hdd : decide (l.length = q - 1 ∧ mul (l.getD (q - 2) 0) x = 1) = true := decide_eq_true hd
          have HNE : Hid (l ≠ []) := fun h => by subst h; have := hd.1; simp at this; omega
          rw [hdd]
          clear hd hdd HSTEP HGE HLLT
          go_wp2_with fail
          go_ret
          refine ⟨⟨.slice (some ⟨g, 0, none⟩) l.length c', rfl, .inr ⟨by rw [HG1.out]; exact HNE.out, ?_⟩⟩, HB0.out.trans (HB.out.mono (Nat.le_succ _))⟩
          rw [HG1.out]
          exact ⟨g', c2, HE.out, HR.out.base (by have := HR.out.lt; omega)⟩
        · have HG1 : Hid (genGo mul q (q - (x + 1)) (x + 1) = genM mul q) := by show _ = _; rw [← HGE.out, HSTEP.out, if_neg hd]
          have hdd : decide (l.length = q - 1 ∧ mul (l.getD (q - 2) 0) x = 1) = false := decide_eq_false hd
          rw [hdd]
          clear hd hdd HSTEP HGE HLLT
          go_wp2_with fail
          go_roundg (q - (x + 1))
          case measure => omega
          case rel => exact ⟨x + 1, by omega, by omega, by go_num, HG1.out, HB.out⟩
    · obtain rfl : x = q := by omega
      have HG0 : Hid (genM mul x = []) := by show _ = _; rw [← HGE.out, Nat.sub_self]; rfl
      clear HGE
      go_wp2_with fail
      go_ret
      exact ⟨⟨_, rfl, .inl ⟨HG0.out, rfl⟩⟩, HFIN.out⟩
end Go.Proofs.YtcfejnnhcdlffaaGreat
