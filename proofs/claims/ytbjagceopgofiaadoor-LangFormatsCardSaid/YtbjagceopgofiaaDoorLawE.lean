/-
  The walks of LangSizes, LangChecks and LangFormats.
-/
import Derived.Test.YtbjagceopgofiaaDoorSmall
import Derived.Test.YtbjagceopgofiaaDoorRefE
import Derived.Test.YtbjagceopgofiaaDoorAlive
namespace Go.Proofs.YtbjagceopgofiaaDoor
open Go.RowKit


set_option maxHeartbeats 4000000 in
set_option maxRecDepth 100000 in
theorem lawSizes_c (x : E) (cs : List Value) (F : Nat → Prop) (w : World) (h : ExprC w F x cs) (hok : okE x) (ht : Pows w) :
    Calls Tryd.prog 10 #[.agg cs.toArray] w fun e w' => e = .returned (.bool true) ∧ Below w.heap.size w w' := by
  obtain ⟨k, nm, n, la, ll, lc, aa, al, ac, rfl⟩ := h.shape
  have HX := Lib.hid h.all
  have HT := Lib.hid ht
  have hg := ht.lt
  clear h ht
  have hb0 : Below w.heap.size w (w.alloc (.cells #[.int .i64 k, .string nm, .int .i64 n, .slice la ll lc, .slice aa al ac] 26)) := (Below.refl _ _).alloc (Nat.le_refl _) _
  have hr0 : (w.alloc (.cells #[.int .i64 k, .string nm, .int .i64 n, .slice la ll lc, .slice aa al ac] 26)).heap[w.heap.size]? = some (.cells [.int .i64 k, .string nm, .int .i64 n, .slice la ll lc, .slice aa al ac].toArray 26 (0, 0)) := heap_alloc_new _ _
  have HR0 := Lib.hid hr0
  have HB0 := Lib.hid hb0
  clear hr0 hb0
  go_enter Tryd.func10, Tryd.ntmps10
  go_wp2_with fail
  generalize w.alloc (.cells #[.int .i64 k, .string nm, .int .i64 n, .slice la ll lc, .slice aa al ac] 26) = W at *
  refine (alive_c W (HT.out.keep hg HB0.out)).mono ?_
  rintro e w1 ⟨rfl, hb1⟩
  have hxw : w.heap.size < W.heap.size := (Array.getElem?_eq_some_iff.1 HR0.out).1
  have HR1 := Lib.hid ((hb1.block _ hxw).trans HR0.out)
  have HB1 := Lib.hid (HB0.out.trans (hb1.mono HB0.out.size))
  have hxw1 : w.heap.size < w1.heap.size := Nat.lt_of_lt_of_le hxw hb1.size
  clear hb1 HR0 HB0 hxw
  clear W
  go_wp2_with (refine wpList_load_mid rfl 26 (.tmp 1) rfl w.heap.size 0 rfl [.int .i64 k, .string nm, .int .i64 n, .slice la ll lc, .slice aa al ac] _ (range_of_row5 HR1.out) Tryd.underlying26 rfl exprSize ?_)
  refine (small_c x _ _ w1 (HX.out.kept HB1.out) hok).mono ?_
  rintro e w2 ⟨b, rfl, hb2, hsm⟩
  have HR2 := Lib.hid ((hb2.block _ hxw1).trans HR1.out)
  have HB2 := Lib.hid (HB1.out.trans (hb2.mono HB1.out.size))
  have hxw2 : w.heap.size < w2.heap.size := Nat.lt_of_lt_of_le hxw1 hb2.size
  clear hb2 HR1 HB1 hxw1
  clear w1
  cases b
  · clear hsm
    go_wp2_with fail
    go_ret
    exact ⟨rfl, HB2.out⟩
  · obtain ⟨hs, he⟩ := hsm rfl
    have HXC : Hid (∀ w', SBz w2 w' → ExprC w' (· < w.heap.size) x [.int .i64 k, .string nm, .int .i64 n, .slice la ll lc, .slice aa al ac] ∧ Pows w' ∧ w'.rangeAt w.heap.size 0 [.int .i64 k, .string nm, .int .i64 n, .slice la ll lc, .slice aa al ac]) := by
      intro w' hw'
      have hb := HB2.out.trans (Below.mono hw' HB2.out.size)
      exact ⟨HX.out.kept hb, HT.out.keep hg hb, rangeAt_kept (range_of_row5 HR2.out) hw' hxw2⟩
    go_upto_region 5 with fail
    refine wp_region_keep (SBz w2) (by kernel_rfl) (by kernel_rfl) ((Below.refl _ _).drew) ?_
    repeat (first
      | (refine keep_load_mid rfl 26 (.tmp 1) rfl w.heap.size 0 rfl [.int .i64 k, .string nm, .int .i64 n, .slice la ll lc, .slice aa al ac] _ (fun w' hS => (HXC.out w' hS).2.2) Tryd.underlying26 rfl exprSize ?_
         go_simp)
      | (apply keep_call rfl
         · intro W' hS
           go_simp
           exact ⟨rfl, rfl⟩
         · intro W' hS
           first
             | exact (size_c x _ _ W' (HXC.out W' hS).1 (by omega)).mono (by rintro e w' ⟨rfl, hbw⟩; exact ⟨rfl, Below.trans hS (hbw.mono (Below.size hS))⟩)
             | exact (rsize_c x _ _ W' (HXC.out W' hS).1 (by omega)).mono (by rintro e w' ⟨rfl, hbw⟩; exact ⟨rfl, Below.trans hS (hbw.mono (Below.size hS))⟩)
         go_simp)
      | (apply keep_val rfl
         · intro W' hS
           go_simp
           try rfl
         go_simp))
    refine wpKeep_nil ?_
    intro w5 hS5
    have HB5 := Lib.hid (HB2.out.trans (Below.mono hS5 HB2.out.size))
    clear hS5
    go_wp2_with fail
    go_ret
    exact ⟨rfl, HB5.out⟩


set_option maxHeartbeats 4000000 in
set_option maxRecDepth 100000 in
theorem lawChecks_c (x : E) (cs : List Value) (F : Nat → Prop) (w : World) (h : ExprC w F x cs) (hok : okE x) (ht : Pows w) :
    Calls Tryd.prog 4 #[.agg cs.toArray] w fun e w' => e = .returned (.bool true) ∧ Below w.heap.size w w' := by
  obtain ⟨k, nm, n, la, ll, lc, aa, al, ac, rfl⟩ := h.shape
  have HX := Lib.hid h.all
  have HT := Lib.hid ht
  have hg := ht.lt
  clear h ht
  have hb0 : Below w.heap.size w (w.alloc (.cells #[.int .i64 k, .string nm, .int .i64 n, .slice la ll lc, .slice aa al ac] 26)) := (Below.refl _ _).alloc (Nat.le_refl _) _
  have hr0 : (w.alloc (.cells #[.int .i64 k, .string nm, .int .i64 n, .slice la ll lc, .slice aa al ac] 26)).heap[w.heap.size]? = some (.cells [.int .i64 k, .string nm, .int .i64 n, .slice la ll lc, .slice aa al ac].toArray 26 (0, 0)) := heap_alloc_new _ _
  have HR0 := Lib.hid hr0
  have HB0 := Lib.hid hb0
  clear hr0 hb0
  go_enter Tryd.func4, Tryd.ntmps4
  go_wp2_with fail
  generalize w.alloc (.cells #[.int .i64 k, .string nm, .int .i64 n, .slice la ll lc, .slice aa al ac] 26) = W at *
  refine (alive_c W (HT.out.keep hg HB0.out)).mono ?_
  rintro e w1 ⟨rfl, hb1⟩
  have hxw : w.heap.size < W.heap.size := (Array.getElem?_eq_some_iff.1 HR0.out).1
  have HR1 := Lib.hid ((hb1.block _ hxw).trans HR0.out)
  have HB1 := Lib.hid (HB0.out.trans (hb1.mono HB0.out.size))
  have hxw1 : w.heap.size < w1.heap.size := Nat.lt_of_lt_of_le hxw hb1.size
  clear hb1 HR0 HB0 hxw
  clear W
  go_wp2_with (refine wpList_load_mid rfl 26 (.tmp 1) rfl w.heap.size 0 rfl [.int .i64 k, .string nm, .int .i64 n, .slice la ll lc, .slice aa al ac] _ (range_of_row5 HR1.out) Tryd.underlying26 rfl exprSize ?_)
  refine (small_c x _ _ w1 (HX.out.kept HB1.out) hok).mono ?_
  rintro e w2 ⟨b, rfl, hb2, hsm⟩
  have HR2 := Lib.hid ((hb2.block _ hxw1).trans HR1.out)
  have HB2 := Lib.hid (HB1.out.trans (hb2.mono HB1.out.size))
  have hxw2 : w.heap.size < w2.heap.size := Nat.lt_of_lt_of_le hxw1 hb2.size
  clear hb2 HR1 HB1 hxw1
  clear w1
  cases b
  · clear hsm
    go_wp2_with fail
    go_ret
    exact ⟨rfl, HB2.out⟩
  · obtain ⟨hs, he⟩ := hsm rfl
    have HXC : Hid (∀ w', SBz w2 w' → ExprC w' (· < w.heap.size) x [.int .i64 k, .string nm, .int .i64 n, .slice la ll lc, .slice aa al ac] ∧ Pows w' ∧ w'.rangeAt w.heap.size 0 [.int .i64 k, .string nm, .int .i64 n, .slice la ll lc, .slice aa al ac]) := by
      intro w' hw'
      have hb := HB2.out.trans (Below.mono hw' HB2.out.size)
      exact ⟨HX.out.kept hb, HT.out.keep hg hb, rangeAt_kept (range_of_row5 HR2.out) hw' hxw2⟩
    go_upto_region 5 with fail
    refine wp_region_keep (SBz w2) (by kernel_rfl) (by kernel_rfl) ((Below.refl _ _).drew) ?_
    repeat (first
      | (refine keep_load_mid rfl 26 (.tmp 1) rfl w.heap.size 0 rfl [.int .i64 k, .string nm, .int .i64 n, .slice la ll lc, .slice aa al ac] _ (fun w' hS => (HXC.out w' hS).2.2) Tryd.underlying26 rfl exprSize ?_
         go_simp)
      | (apply keep_call rfl
         · intro W' hS
           go_simp
           exact ⟨rfl, rfl⟩
         · intro W' hS
           first
             | exact (check_c x _ _ W' (HXC.out W' hS).1 (by omega) he (HXC.out W' hS).2.1).mono (by rintro e w' ⟨rfl, hbw⟩; exact ⟨rfl, Below.trans hS (hbw.mono (Below.size hS))⟩)
             | exact (rcheck_c x _ _ W' (HXC.out W' hS).1 (by omega) he).mono (by rintro e w' ⟨rfl, hbw⟩; exact ⟨rfl, Below.trans hS (hbw.mono (Below.size hS))⟩)
         go_simp)
      | (apply keep_val rfl
         · intro W' hS
           go_simp
           try rfl
         go_simp))
    refine wpKeep_nil ?_
    intro w5 hS5
    have HB5 := Lib.hid (HB2.out.trans (Below.mono hS5 HB2.out.size))
    clear hS5
    go_wp2_with fail
    go_ret
    exact ⟨rfl, HB5.out⟩


set_option maxHeartbeats 4000000 in
set_option maxRecDepth 100000 in
theorem lawFormats_c (x : E) (cs : List Value) (F : Nat → Prop) (w : World) (h : ExprC w F x cs) (hok : okE x) (ht : Pows w) :
    Calls Tryd.prog 5 #[.agg cs.toArray] w fun e w' => e = .returned (.bool true) ∧ Below w.heap.size w w' := by
  obtain ⟨k, nm, n, la, ll, lc, aa, al, ac, rfl⟩ := h.shape
  have HX := Lib.hid h.all
  have HT := Lib.hid ht
  have hg := ht.lt
  clear h ht
  have hb0 : Below w.heap.size w (w.alloc (.cells #[.int .i64 k, .string nm, .int .i64 n, .slice la ll lc, .slice aa al ac] 26)) := (Below.refl _ _).alloc (Nat.le_refl _) _
  have hr0 : (w.alloc (.cells #[.int .i64 k, .string nm, .int .i64 n, .slice la ll lc, .slice aa al ac] 26)).heap[w.heap.size]? = some (.cells [.int .i64 k, .string nm, .int .i64 n, .slice la ll lc, .slice aa al ac].toArray 26 (0, 0)) := heap_alloc_new _ _
  have HR0 := Lib.hid hr0
  have HB0 := Lib.hid hb0
  clear hr0 hb0
  go_enter Tryd.func5, Tryd.ntmps5
  go_wp2_with fail
  generalize w.alloc (.cells #[.int .i64 k, .string nm, .int .i64 n, .slice la ll lc, .slice aa al ac] 26) = W at *
  refine (alive_c W (HT.out.keep hg HB0.out)).mono ?_
  rintro e w1 ⟨rfl, hb1⟩
  have hxw : w.heap.size < W.heap.size := (Array.getElem?_eq_some_iff.1 HR0.out).1
  have HR1 := Lib.hid ((hb1.block _ hxw).trans HR0.out)
  have HB1 := Lib.hid (HB0.out.trans (hb1.mono HB0.out.size))
  have hxw1 : w.heap.size < w1.heap.size := Nat.lt_of_lt_of_le hxw hb1.size
  clear hb1 HR0 HB0 hxw
  clear W
  go_wp2_with (refine wpList_load_mid rfl 26 (.tmp 1) rfl w.heap.size 0 rfl [.int .i64 k, .string nm, .int .i64 n, .slice la ll lc, .slice aa al ac] _ (range_of_row5 HR1.out) Tryd.underlying26 rfl exprSize ?_)
  refine (small_c x _ _ w1 (HX.out.kept HB1.out) hok).mono ?_
  rintro e w2 ⟨b, rfl, hb2, hsm⟩
  have HR2 := Lib.hid ((hb2.block _ hxw1).trans HR1.out)
  have HB2 := Lib.hid (HB1.out.trans (hb2.mono HB1.out.size))
  have hxw2 : w.heap.size < w2.heap.size := Nat.lt_of_lt_of_le hxw1 hb2.size
  clear hb2 HR1 HB1 hxw1
  clear w1
  cases b
  · clear hsm
    go_wp2_with fail
    go_ret
    exact ⟨rfl, HB2.out⟩
  · obtain ⟨hs, he⟩ := hsm rfl
    go_wp2_with (refine wpList_load_mid rfl 26 (.tmp 1) rfl w.heap.size 0 rfl [.int .i64 k, .string nm, .int .i64 n, .slice la ll lc, .slice aa al ac] _ (range_of_row5 HR2.out) Tryd.underlying26 rfl exprSize ?_)
    refine (format_c x _ _ w2 (HX.out.kept HB2.out) (by omega) he (HT.out.keep hg HB2.out)).mono ?_
    rintro e w3 ⟨rfl, hb3⟩
    have HR3 := Lib.hid ((hb3.block _ hxw2).trans HR2.out)
    have HB3 := Lib.hid (HB2.out.trans (hb3.mono HB2.out.size))
    have hxw3 : w.heap.size < w3.heap.size := Nat.lt_of_lt_of_le hxw2 hb3.size
    clear hb3 HR2 HB2 hxw2
    clear w2
    go_wp2_with (refine wpList_load_mid rfl 26 (.tmp 1) rfl w.heap.size 0 rfl [.int .i64 k, .string nm, .int .i64 n, .slice la ll lc, .slice aa al ac] _ (range_of_row5 HR3.out) Tryd.underlying26 rfl exprSize ?_)
    refine (rcheck_c x _ _ w3 (HX.out.kept HB3.out) (by omega) he).mono ?_
    rintro e w4 ⟨rfl, hb4⟩
    have HR4 := Lib.hid ((hb4.block _ hxw3).trans HR3.out)
    have HB4 := Lib.hid (HB3.out.trans (hb4.mono HB3.out.size))
    clear hb4 HR3 HB3 hxw3
    clear w3
    have HFT : Hid (formatE x = if checkE x = 0 then textE x else []) := rfl
    by_cases hc : checkE x = 0
    · obtain ⟨hf, hsh, _, hsz, htl⟩ := checkE_zero hc
      have he2 := ent_short x hsh
      rw [if_pos hc] at HFT
      rw [hc, HFT.out]
      have htl2 : (textE x).length ≤ 100000000000 := by omega
      go_wp2_with (refine wpList_load_mid rfl 26 (.tmp 1) rfl w.heap.size 0 rfl [.int .i64 k, .string nm, .int .i64 n, .slice la ll lc, .slice aa al ac] _ (range_of_row5 HR4.out) Tryd.underlying26 rfl exprSize ?_)
      refine (rtext_c x _ _ w4 (HX.out.kept HB4.out) hf (by omega) (by omega)).mono ?_
      rintro e w5 ⟨rfl, hb5⟩
      have HB5 := Lib.hid (HB4.out.trans (hb5.mono HB4.out.size))
      clear hb5
      go_wp2_with fail
      go_ret
      exact ⟨rfl, HB5.out⟩
    · rw [if_neg hc] at HFT
      rw [HFT.out]
      have hcl := checkE_le x
      generalize checkE x = z at *
      have hz : ¬ (z : Int) = 0 := by omega
      go_wp2_with fail
      go_ret
      exact ⟨rfl, HB4.out⟩
#print axioms lawSizes_c
#print axioms lawChecks_c
#print axioms lawFormats_c
end Go.Proofs.YtbjagceopgofiaaDoor
