/-
  enumerate.Weights at the code of 000 and 111.
-/
import Derived.Test.YthiackegnpnmbaaGreatQ38
import Derived.Shelf.Abstract
import Derived.ControlIn
namespace Go.Proofs.YthiackegnpnmbaaGreat
open Go.RowKit Pln

def cnts : Nat → List Nat
  | 0 => [0, 0, 0, 0]
  | 1 => [1, 0, 0, 0]
  | _ => [1, 0, 0, 1]
theorem cnts_len : ∀ k, k ≤ 2 → (cnts k).length = 4
  | 0, _ => rfl
  | 1, _ => rfl
  | 2, _ => rfl
theorem cnts_step {k : Nat} (hk : k < 2) : Dv.wt (List.replicate 3 k) < 4 ∧ (cnts k).getD (Dv.wt (List.replicate 3 k)) 0 = 0 ∧ (cnts k).set (Dv.wt (List.replicate 3 k)) 1 = cnts (k + 1) := by
  match k, hk with
  | 0, _ => exact ⟨by decide, rfl, rfl⟩
  | 1, _ => exact ⟨by decide, rfl, rfl⟩
theorem below_putObj {B l : Nat} {a W : World} (h : Below B a W) (hl : B ≤ l) (o : Obj) : Below B a (W.putObj l o) :=
  ⟨h.os, h.tape, h.output, by simpa using h.size, fun k hk => (World.putObj_heap_other (by omega)).trans (h.block k hk)⟩
/-- What lies between two rounds. -/
structure WtI (w : World) (Bo bo k : Nat) (W : World) : Prop where
  box : W.cell? ⟨Bo, 0, none⟩ = some (.slice (some ⟨bo, 0, none⟩) 4 4)
  row : Row W w.heap.size bo 4 (nz (cnts k))
  low : Below w.heap.size w W
theorem WtI.keep {w : World} {Bo bo k B : Nat} {W W' : World} (h : WtI w Bo bo k W) (hb : Below B W W') (h3 : Bo < B) (h4 : bo < B) (h5 : w.heap.size ≤ B) : WtI w Bo bo k W' :=
  ⟨(hb.cell (p := ⟨Bo, 0, none⟩) h3).trans h.box, h.row.below hb h4, h.low.trans (hb.mono h5)⟩
def RdPost (I : Nat → World → Prop) (bo k : Nat) (W2 : World) (e : Exit) (_ : Act) (W3 : World) : Prop := e = .normal ∧ I (k + 1) W3 ∧ W2.heap.size ≤ W3.heap.size ∧ ∀ b, b < W2.heap.size → b ≠ bo → W3.heap[b]? = W2.heap[b]?
/-- A range over the function, of two rounds. -/
theorem range_two (w4 : World) {g : Operand} {ps : Array Tmp} {assign body : Code} {Q : Exit → Act → World → Prop} {a : Act} {lb : Array Value} (hg : a.eval g = .func (.func 167) #[] lb) (hps : ps.size = 2) (I : Nat → World → Prop) (bo : Nat) (hbo : bo < w4.heap.size)
    (hI : ∀ k A B, I k A → Below w4.heap.size A B → I k B) (h0 : I 0 w4)
    (hseq : ∀ (l : Nat) (J : Nat → World → Prop) (W : World), Below w4.heap.size w4 W → l < W.heap.size → w4.heap.size ≤ l → (∀ j A B, J j A → Below W.heap.size A B → J j B) → RndsOk l bo W.heap.size J → J 0 W → Calls Tryz.prog 167 (#[.func (.yield l) #[] #[]] ++ lb) W fun e w' => (∃ v, e = .returned v) ∧ J 2 w')
    (a₁ : Nat → Nat → Nat → Act) (hassign : ∀ (l k g c : Nat) (W : World) (K : Act → World → Prop), K (a₁ k g c) W → assign.wpIn (Fence.wide.inRound l) 0 Tryz.prog (Exit.then K (fun _ _ _ => False)) { tmps := (ps.zip #[.int .i64 (k : Int), .slice (some ⟨g, 0, none⟩) 3 c]).foldl (fun t (p, v) => t.setIfInBounds p v) a.tmps, defers := [] } W)
    (hbody : ∀ (l k g c : Nat) (W2 : World), k < 2 → I k W2 → Row W2 w4.heap.size g c (nz (List.replicate 3 k)) → body.wpIn (Fence.wide.inRound l) 0 Tryz.prog (RdPost I bo k W2) (a₁ k g c) W2)
    (hdone : ∀ (D : Nat) (W : World), I 2 W → w4.heap.size ≤ D → W.heap[D]? = some (.deferred (some [])) → Q .normal { a with defers := { target := .collected D, args := #[] } :: a.defers } W) :
    (Code.rangeFunc g ps assign body).wpIn Fence.wide 0 Tryz.prog Q a w4 := by
  refine wpIn_rangeFunc ?_
  intro fn hfn
  obtain ⟨rec, hrec⟩ : ∃ rec : LoopState → Option Code → Loop, rec = fun st pe => { state := st, pending := pe, fn, tmps := a.tmps, params := ps, assign, body, defers := w4.heap.size } := ⟨_, rfl⟩
  obtain ⟨W1, hW1⟩ : ∃ W1, (w4.alloc (.deferred (some []))).alloc (.loop (rec .ready none)) = W1 := ⟨_, rfl⟩
  have hL1 : W1.heap[w4.heap.size + 1]? = some (.loop (rec .ready none)) := by
    rw [← hW1]; have := World.alloc_heap_new (w4.alloc (.deferred (some []))) (.loop (rec .ready none)); rwa [World.size_alloc] at this
  have hK1 : W1.heap[w4.heap.size]? = some (.deferred (some [])) := by
    rw [← hW1]; exact (Below.heap_alloc _ _ _ (by simp)).trans (World.alloc_heap_new w4 _)
  have hb1 : Below w4.heap.size w4 W1 := by rw [← hW1]; exact ((Below.refl _ w4).alloc (Nat.le_refl _) _).alloc (by simp) _
  have hz1 : W1.heap.size = w4.heap.size + 2 := by rw [← hW1]; simp
  have eg : Enters Tryz.prog 167 := enters_of Tryz.func167 (by kernel_rfl) rfl
  refine ⟨w4.heap.size + 1, [{ target := .collected w4.heap.size, args := #[] }], W1, { target := .fn (.func 167) lb, args := #[.func (.yield (w4.heap.size + 1)) #[] #[]] }, W1, 167,
    #[.func (.yield (w4.heap.size + 1)) #[] #[]] ++ lb, W1, ?_, ?_, fun _ _ => trivial, ?_, fun h => (by cases h), ?_⟩
  · rw [← hW1, hrec]; exact run_enterLoop_outer _ _ _ _ _
  · simp only [resolve, hg]
    simp [go_sem]
  · simp [invoke, go_sem, eg _ _]
  · refine callsIn_wide.2 ((hseq (w4.heap.size + 1) (fun k W => I k W ∧ W.heap[w4.heap.size + 1]? = some (.loop (rec .ready none)) ∧ W.heap[w4.heap.size]? = some (.deferred (some []))) W1 hb1 (by omega) (by omega)
      (fun j A B ⟨h1, h2, h3⟩ hb => ⟨hI j A B h1 (hb.mono (by omega)), (hb.block _ (by omega)).trans h2, (hb.block _ (by omega)).trans h3⟩) ?_ ⟨hI 0 w4 W1 h0 hb1, hL1, hK1⟩).mono ?_)
    · rintro k gg c W hk ⟨hi, hl, hd⟩ hsz hrow
      have hlt : w4.heap.size + 1 < W.heap.size := (Array.getElem?_eq_some_iff.1 hl).1
      have hy := run_yield (P := Tryz.prog) (args := #[.int .i64 (k : Int), .slice (some ⟨gg, 0, none⟩) 3 c]) hl (by rw [hrec]; exact hps.symm)
      rw [hrec] at hy
      refine ⟨fn, _, assign, body, hy, roundIn_of_wpIn hfn (hassign (w4.heap.size + 1) k gg c W _ ?_)⟩
      clear hy
      · have hb := hbody (w4.heap.size + 1) k gg c
        refine ⟨_, run_beginRound hl (by rw [hrec]), ?_⟩
        have hl2 : (W.putObj (w4.heap.size + 1) (.loop { rec .ready none with state := .busy })).heap[w4.heap.size + 1]? = some (.loop { rec .ready none with state := .busy }) := World.putObj_heap_same hlt
        have hbp : Below (w4.heap.size + 1) W (W.putObj (w4.heap.size + 1) (.loop { rec .ready none with state := .busy })) := below_putObj (Below.refl _ _) (Nat.le_refl _) _
        have hgl := hrow.lt
        have hrow2 : Row (W.putObj (w4.heap.size + 1) (.loop { rec .ready none with state := .busy })) w4.heap.size gg c (nz (List.replicate 3 k)) := by
          have h1 : Row W w4.heap.size gg c (nz (List.replicate 3 k)) := hrow.base (by omega)
          exact World.ownsRow.kept h1 (row := some (w4.heap.size + 1)) ⟨rfl, rfl, rfl, by simp, fun b _ hne => World.putObj_heap_other (fun e => hne (congrArg some e))⟩ (.inr (fun e => by simp [Value.ownBlock] at e; omega))
        refine Code.wpIn_mono ?_ (hb _ hk (hI k _ _ hi (hbp.mono (by omega))) hrow2)
        rintro e a3 W3 ⟨rfl, hi3, hs3, hsm⟩
        have hl3 : W3.heap[w4.heap.size + 1]? = some (.loop { rec .ready none with state := .busy }) := (hsm _ (by simpa using hlt) (by omega)).trans hl2
        refine ⟨_, _, run_endRound none hl3, rfl, ⟨hI _ _ _ hi3 (below_putObj (Below.refl _ _) (by omega) _), ?_, ?_⟩, ?_, ?_⟩
        · refine (World.putObj_heap_same (Array.getElem?_eq_some_iff.1 hl3).1).trans ?_
          rw [hrec]
          rfl
        · refine (World.putObj_heap_other (by omega)).trans ((hsm _ (by simp; omega) (by omega)).trans ((World.putObj_heap_other (by omega)).trans hd))
        · simpa using hs3
        · intro b hb1 hb2 hb3
          exact (World.putObj_heap_other hb2).trans ((hsm b (by simpa using hb1) hb3).trans (World.putObj_heap_other hb2))
    · rintro e W2 ⟨⟨v, rfl⟩, hi, hl, hd⟩
      have hend := run_endLoop (P := Tryz.prog) hl (by rw [hrec]; simp)
      have hp : (rec .ready none).pending = none := by rw [hrec]
      rw [hp] at hend
      exact ⟨none, _, hend, hdone w4.heap.size _ (hI _ _ _ hi (below_putObj (l := w4.heap.size + 1) (Below.refl _ _) (by omega) _)) (Nat.le_refl _) ((World.putObj_heap_other (by omega)).trans hd)⟩
def WtS (w : World) (Bo bo g k : Nat) (V : World) : Prop := V.cell? ⟨Bo, 0, none⟩ = some (.slice (some ⟨bo, 0, none⟩) 4 4) ∧ Row V w.heap.size bo 4 (nz (cnts k)) ∧ IntsAt V V.heap.size (some ⟨g, 0, none⟩) (nz (List.replicate 3 k))
def WtsPost (w : World) (e : Ending) (w' : World) : Prop := ∃ g : Nat, e = .returned (.tuple #[.slice (some ⟨g, 0, none⟩) 4 4, .int .i64 0]) ∧ IntsAt w' w'.heap.size (some ⟨g, 0, none⟩) (nz [1, 0, 0, 1]) ∧ Below w.heap.size w w'
set_option maxHeartbeats 4000000 in
set_option maxRecDepth 100000 in
theorem eweights_c (G R ro cr : Nat) (w : World) (hG1 : w.cell? ⟨G, 0, none⟩ = some (.slice (some ⟨R, ro, none⟩) 3 cr)) (hG2 : ∀ j, j < 3 → w.cell? ⟨R, ro + j, none⟩ = some (.int .i64 1)) :
    Calls Tryz.prog 54 #[.agg #[.int .i64 2, .int .i64 1, .slice none 0 0, .int .i64 3, .slice (some ⟨G, 0, none⟩) 1 1]] w (WtsPost w) := by
  have HG : Hid (RowsAt w w.heap.size (some ⟨G, 0, none⟩) [[1, 1, 1]]) := by
    refine fun _ => ⟨G, 0, rfl, World.block_lt_of_cell? w _ hG1, fun i hi => ?_⟩
    obtain rfl : i = 0 := by simpa using hi
    refine ⟨some ⟨R, ro, none⟩, cr, hG1, fun _ => ⟨R, ro, rfl, World.block_lt_of_cell? w _ (hG2 0 (by omega)), fun j hj => ?_⟩⟩
    have hj3 : j < 3 := hj
    rw [hG2 j hj3]
    match j, hj3 with
    | 0, _ => rfl
    | 1, _ => rfl
    | 2, _ => rfl
  have HG1 := Lib.hid hG1
  have HG2 := Lib.hid hG2
  have HX := Lib.hid (bx_new w [.int .i64 2, .int .i64 1, .slice none 0 0, .int .i64 3, .slice (some ⟨G, 0, none⟩) 1 1] 30)
  obtain ⟨i0, hii, hz0, hz1, hz2⟩ := info_parts infoInt
  have HI := Lib.hid hii
  have HZ0 := Lib.hid hz0
  have HZ1 := Lib.hid hz1
  have HB2 := Lib.hid (show i0.bytes * 4 ≤ 281474976710656 by rw [hz2]; omega)
  clear hG1 hG2 hii hz0 hz1 hz2
  refine (callsIn_wide (n := 0)).1 (callsIn_of_wp_marks Tryz.func54 rfl trivial (wpIn_wide.2 ?_))
  simp only [Tryz.ntmps54, List.size_toArray, List.length_cons, List.length_nil, Nat.reduceAdd, Nat.reduceSub, Array.replicate_succ, Array.replicate_zero, List.push_toArray, List.append_toArray, List.nil_append, List.cons_append]
  go_upto_region 1 with fail
  generalize w.alloc (.cells #[.int .i64 2, .int .i64 1, .slice none 0 0, .int .i64 3, .slice (some ⟨G, 0, none⟩) 1 1] 30) = W0 at *
  have HRG := Lib.hid HX.out.range
  have HC := Lib.hid (esize_c G W0 ((HG.out.keep HX.out.below).more HX.out.below.size))
  go_wp2_with (refine wpList_load_mid rfl 30 (.tmp 1) rfl w.heap.size 0 rfl [.int .i64 2, .int .i64 1, .slice none 0 0, .int .i64 3, .slice (some ⟨G, 0, none⟩) 1 1] _ HRG.out Tryz.underlying30 rfl codeSize ?_)
  (with_reducible refine HC.out.mono ?_)
  rintro e w1 ⟨rfl, hb1⟩
  have HX1 := Lib.hid (HX.out.grow hb1)
  clear hb1 HC HX HRG
  clear W0
  have c3 : w1.cell? ⟨w.heap.size, 3, none⟩ = some (.int .i64 3) := HX1.out.cell rfl
  have hs1 : w.heap.size ≤ w1.heap.size := HX1.out.below.size
  go_upto_region 5 with (refine wpList_make_full w1 rfl (.tmp 19) (.tmp 19) 23 rfl w.heap.size 3 i0 (.int .i64 0) 1 Tryz.underlying23 HI.out HZ0.out HZ1.out .i64 .i64 4 4 4 rfl rfl rfl rfl HB2.out (by unfold maxLen; omega) hs1 ?_; intro w2 hown hgr)
  have hb2 := below_of_grown hgr
  have hr2 := Row.of_make hown
  have HX3 : Hid (BX w [.int .i64 2, .int .i64 1, .slice none 0 0, .int .i64 3, .slice (some ⟨G, 0, none⟩) 1 1] 30 (w2.alloc (.cells #[.slice (some ⟨w1.heap.size, 0, none⟩) 4 4] 23))) := (HX1.out.grow hb2).grow ((Below.refl _ _).alloc (Nat.le_refl _) _)
  have HR3 : Hid (Row (w2.alloc (.cells #[.slice (some ⟨w1.heap.size, 0, none⟩) 4 4] 23)) w.heap.size w1.heap.size 4 (nz (cnts 0))) := hr2.below ((Below.refl w2.heap.size w2).alloc (Nat.le_refl _) _) hr2.lt.2
  have HC3 : Hid ((w2.alloc (.cells #[.slice (some ⟨w1.heap.size, 0, none⟩) 4 4] 23)).cell? ⟨w2.heap.size, 0, none⟩ = some (.slice (some ⟨w1.heap.size, 0, none⟩) 4 4)) := cell_of_row _ _ 0 _ _ _ (heap_alloc_new _ _)
  have hs2 : w1.heap.size < w2.heap.size := hr2.lt.2
  have hs3 : w2.heap.size < (w2.alloc (.cells #[.slice (some ⟨w1.heap.size, 0, none⟩) 4 4] 23)).heap.size := by simp
  have hbo : w.heap.size < w1.heap.size := HX1.out.2.2
  generalize w2.alloc (.cells #[.slice (some ⟨w1.heap.size, 0, none⟩) 4 4] 23) = w3 at *
  clear hown hgr hb2 hr2 HX1 c3 HI HZ0 HZ1 HB2 hs1
  generalize w1.heap.size = bo at *
  generalize w2.heap.size = Bo at *
  clear w1 w2
  have HRG := Lib.hid HX3.out.range
  have HW := Lib.hid (ewalk_c [.int .i64 2, .int .i64 1, .slice none 0 0, .int .i64 3, .slice (some ⟨G, 0, none⟩) 1 1] w3)
  go_wp2_with (refine wpList_load_mid rfl 30 (.tmp 1) rfl w.heap.size 0 rfl [.int .i64 2, .int .i64 1, .slice none 0 0, .int .i64 3, .slice (some ⟨G, 0, none⟩) 1 1] _ HRG.out Tryz.underlying30 rfl codeSize ?_)
  (with_reducible refine HW.out.mono ?_)
  rintro e w4 ⟨rfl, HW4⟩
  have hw4 := Lib.hid HW4
  have hsz4 : w4.heap.size = w3.heap.size + 1 := by rw [HW4]; simp
  have HX4 : Hid (BX w [.int .i64 2, .int .i64 1, .slice none 0 0, .int .i64 3, .slice (some ⟨G, 0, none⟩) 1 1] 30 w4) := by rw [HW4]; exact HX3.out.grow ((Below.refl _ _).alloc (Nat.le_refl _) _)
  have HR4 : Hid (Row w4 w.heap.size bo 4 (nz (cnts 0))) := by rw [HW4]; exact HR3.out.below ((Below.refl w3.heap.size w3).alloc (Nat.le_refl _) _) HR3.out.lt.2
  have HC4 : Hid (w4.cell? ⟨Bo, 0, none⟩ = some (.slice (some ⟨bo, 0, none⟩) 4 4)) := by rw [HW4]; exact (((Below.refl w3.heap.size w3).alloc (Nat.le_refl _) _).cell (p := ⟨Bo, 0, none⟩) hs3).trans HC3.out
  have HQ4 : Hid (w4.rangeAt w3.heap.size 0 [.int .i64 2, .int .i64 1, .slice none 0 0, .int .i64 3, .slice (some ⟨G, 0, none⟩) 1 1]) := by rw [HW4]; exact range_of_row (heap_alloc_new _ _)
  clear HW4 hw4 HW HRG HX3 HR3 HC3
  generalize w3.heap.size = Bc at *
  clear w3
  go_upto_region 9 with fail
  have hBc : Bc < w4.heap.size := by omega
  have HI0 : Hid (WtI w Bo bo 0 w4) := ⟨HC4.out, HR4.out, HX4.out.below⟩
  have HCF : Hid (∀ (l : Nat) (W : World), Below w4.heap.size w4 W → w4.heap.size ≤ l → CodeFar l bo Bc G W) := fun l W hb hl => by
    have l2 := World.block_lt_of_cell? w _ HG1.out
    have l3 := World.block_lt_of_cell? w _ (HG2.out 0 (by omega))
    simp only at l2 l3
    have hw := HX4.out.below
    have hb0 := hw.trans (hb.mono hw.size)
    have hsw := hw.size
    exact ⟨by omega, by omega, range_keep_v HQ4.out (hb.block Bc hBc), by omega, by omega, R, ro, cr, by omega, by omega, (hb0.cell (p := ⟨G, 0, none⟩) l2).trans HG1.out, fun j hj => (hb0.cell (p := ⟨R, ro + j, none⟩) l3).trans (HG2.out j hj)⟩
  refine (wpIn_wide (n := 0)).1 (range_two w4 rfl rfl (WtI w Bo bo) bo (by omega) (fun k A B h hb => h.keep hb (by omega) (by omega) (by omega)) HI0.out (fun l J W hb hl1 hl2 hJ hY h0 => walk1_c l bo Bc G J W hJ hl1 (by have := hb.size; omega) (HCF.out l W hb hl2) hY h0) (fun k g c => { tmps := #[.agg #[.int .i64 2, .int .i64 1, .slice none 0 0, .int .i64 3, .slice (some ⟨G, 0, none⟩) 1 1], .pointer (some ⟨w.heap.size, 0, none⟩), .slice none 0 0, .int .i64 0, .int .i64 2, .int .i64 0, .pointer (some ⟨Bo, 0, none⟩), undef, .slice (some ⟨g, 0, none⟩) 3 c, .tuple #[.int .i64 2, .int .i64 0], .agg #[.int .i64 2, .int .i64 1, .slice none 0 0, .int .i64 3, .slice (some ⟨G, 0, none⟩) 1 1], .tuple #[.int .i64 2, .int .i64 0], .int .i64 2, .int .i64 0, .int .i64 0, .bool false, undef, .pointer (some ⟨w.heap.size, 3, none⟩), .int .i64 3, .int .i64 4, .slice (some ⟨bo, 0, none⟩) 4 4, .agg #[.int .i64 2, .int .i64 1, .slice none 0 0, .int .i64 3, .slice (some ⟨G, 0, none⟩) 1 1], .func (.func 167) #[] #[.pointer (some ⟨Bc, 0, none⟩)], .int .i64 (k : Int), .slice (some ⟨g, 0, none⟩) 3 c, undef, undef, undef, undef, undef, undef, undef, undef], defers := [] }) ?_ ?_ ?_)
  · intro l k g c W K hK
    have hsem : ∀ (ρ : Operand → Value) (o : Oper), (∀ c, o.op ≠ .defer c) → Oper.semAt (some l) ρ o = execOp ρ o := fun ρ o h => Oper.semAt_some l ρ o h
    clear HG HG1 HG2 HX4 HR4 HC4 HQ4 HCF HI0
    gi_wp2
    exact hK
  · intro l k g c W2 hk hi hrow
    have hst := cnts_step hk
    have HWC : Hid (∀ V : World, IntsAt V V.heap.size (some ⟨g, 0, none⟩) (nz (List.replicate 3 k)) → Calls Tryz.prog 117 #[.slice (some ⟨g, 0, none⟩) 3 c] V fun e w' => e = .returned (.int .i64 ((Dv.wt (List.replicate 3 k) : Nat) : Int)) ∧ V = w') := fun V hV => by
      have := eweight_c (List.replicate 3 k) (some ⟨g, 0, none⟩) c V hV (by simp)
      rw [List.length_replicate] at this
      exact this
    generalize Dv.wt (List.replicate 3 k) = t at *
    have HST := Lib.hid hst
    have t0 : (0 : Int) ≤ (t : Int) := by omega
    have t1 : (t : Int) < 4 := by have := hst.1; omega
    clear hst HG HG1 HG2 HX4 HR4 HC4 HQ4 HCF HI0
    have hk2 : k ≤ 2 := by omega
    clear hk
    have HI2 := Lib.hid hi
    have HSD : Hid (WtS w Bo bo g k W2.drew) := ⟨hi.box, hi.row.below (Below.refl _ W2).drew hi.row.lt.2, (hrow.below (Below.refl _ W2).drew hrow.lt.2).ints hrow.lt.2⟩
    clear hi hrow
    gi_step
    refine wpIn_region_mixf 7 7 (WtS w Bo bo g k) [(0, 0), (1, 1), (2, 2), (1, 3), (0, 4), (1, 5), (1, 6)] default (noBar_wide.inRound l) (by kernel_rfl) (by kernel_rfl) (by kernel_rfl) HSD.out ?_
    simp only [List.map_cons, List.map_nil, List.getD_cons_zero, List.getD_cons_succ]
    apply mixf_val rfl
    · intro V hV
      have y := hV.1
      go_simp
      rfl
    go_simp
    apply mixf_free rfl
    · intro V
      go_simp
      rfl
    go_simp
    apply mixf_call rfl
    · go_simp
      exact ⟨rfl, rfl⟩
    have HWD := Lib.hid (HWC.out W2.drew HSD.out.2.2)
    with_reducible refine HWD.out.mono ?_
    rintro e w' ⟨rfl, rfl⟩
    refine ⟨_, rfl, HSD.out, ?_⟩
    go_simp
    apply mixf_free rfl
    · intro V
      go_simp
      rfl
    go_simp
    apply mixf_val rfl
    · intro V hV
      have y : V.cell? ⟨bo, t, none⟩ = some (.int .i64 0) := by
        have := hV.2.1.cell (j := t) (by rw [nz_len, cnts_len k hk2]; exact HST.out.1)
        rw [nz_getD, HST.out.2.1] at this
        exact this
      go_simp
      rfl
    go_simp
    iterate 2
      apply mixf_free rfl
      · intro V
        go_simp
        rfl
      go_simp
    refine mixf_nil ?_
    show wpListIn _ _ _ _ _ _ _ _
    have HR3 : Hid (Row W2.drew w.heap.size bo 4 (nz (cnts k))) := HSD.out.2.1
    have HB3 : Hid (Below w.heap.size w W2.drew) := HI2.out.low.drew
    have y : W2.drew.cell? ⟨bo, t, none⟩ = some (.int .i64 0) := by
      have := HR3.out.cell (j := t) (by rw [nz_len, cnts_len k hk2]; exact HST.out.1)
      rw [nz_getD, HST.out.2.1] at this
      exact this
    have f := HR3.out.frozen t
    have HBX3 : Hid (W2.drew.cell? ⟨Bo, 0, none⟩ = some (.slice (some ⟨bo, 0, none⟩) 4 4)) := by
      obtain ⟨h1, _, _⟩ := HSD.out
      exact h1
    have HSM : Hid (∀ b, b ≠ bo → (W2.drew.setCell ⟨bo, t, none⟩ (.int .i64 1)).heap[b]? = W2.heap[b]?) := fun b hb => Below.heap_setCell W2.drew ⟨bo, t, none⟩ _ b hb
    have HIF : Hid (WtI w Bo bo (k + 1) (W2.drew.setCell ⟨bo, t, none⟩ (.int .i64 1))) := by
      refine ⟨(World.cell?_of_block (a := ⟨Bo, 0, none⟩) (Below.heap_setCell W2.drew ⟨bo, t, none⟩ _ Bo (by show Bo ≠ bo; omega))).trans HBX3.out, ?_, HB3.out.setCell (p := ⟨bo, t, none⟩) (by show w.heap.size ≤ bo; omega) _⟩
      rw [← HST.out.2.2, ← nz_set]
      exact HR3.out.set t 1
    have hsem : ∀ (ρ : Operand → Value) (o : Oper), (∀ c, o.op ≠ .defer c) → Oper.semAt (some l) ρ o = execOp ρ o := fun ρ o h => Oper.semAt_some l ρ o h
    repeat (first | go_values | gi_guarded | gi_step | gi_upon)
    exact ⟨rfl, HIF.out, by simp, fun b _ hb => HSM.out b hb⟩
  · intro D W hi hD hd
    have y := hi.box
    have HI2 := Lib.hid hi
    have HX5 : Hid (w.heap.size < w4.heap.size) := HX4.out.2.2
    clear HG HG1 HG2 HX4 HR4 HC4 HQ4 HCF HI0
    go_wp2_with fail
    refine ⟨by simp, .inl ⟨_, _, rfl, run_takeDeferred hd, ?_⟩⟩
    have hbp := below_putObj (Below.refl D W) (Nat.le_refl D) (.deferred none)
    have hDw := HX5.out
    have hr5 := HI2.out.row.below hbp (by omega)
    exact ⟨_, results_tmp2 rfl _ _ _, bo, rfl, hr5.ints hr5.lt.2, below_putObj HI2.out.low (by omega) _⟩
end Go.Proofs.YthiackegnpnmbaaGreat

