/-
  The walk of LangBack.
-/
import Derived.Test.YtbjagceopgofiaaDoorSmall
import Derived.Test.YtbjagceopgofiaaDoorRefE
import Derived.Test.YtbjagceopgofiaaDoorAlive
import Derived.Test.YtbjagceopgofiaaDoorPlainB
namespace Go.Proofs.YtbjagceopgofiaaDoor
open Go.RowKit


set_option maxHeartbeats 4000000 in
set_option maxRecDepth 100000 in
theorem lawBack_c (x : E) (cs : List Value) (F : Nat → Prop) (w : World) (h : ExprC w F x cs) (hok : okE x) (ht : Pows w) :
    Calls Tryd.prog 6 #[.agg cs.toArray] w fun e w' => e = .returned (.bool true) ∧ Below w.heap.size w w' := by
  obtain ⟨k, nm, n, la, ll, lc, aa, al, ac, rfl⟩ := h.shape
  have HX := Lib.hid h.all
  have HT := Lib.hid ht
  have hg := ht.lt
  clear h ht
  have hb0 : Below w.heap.size w (w.alloc (.cells #[.int .i64 k, .string nm, .int .i64 n, .slice la ll lc, .slice aa al ac] 26)) := (Below.refl _ _).alloc (Nat.le_refl _) _
  have hr0 : (w.alloc (.cells #[.int .i64 k, .string nm, .int .i64 n, .slice la ll lc, .slice aa al ac] 26)).heap[w.heap.size]? = some (.cells [.int .i64 k, .string nm, .int .i64 n, .slice la ll lc, .slice aa al ac].toArray 26 (0, 0)) := heap_alloc_new _ _
  have HR0 := Lib.hid hr0
  have HB0 := Lib.hid hb0
  clear hr0 hb0
  go_enter Tryd.func6, Tryd.ntmps6
  go_wp2_with fail
  generalize w.alloc (.cells #[.int .i64 k, .string nm, .int .i64 n, .slice la ll lc, .slice aa al ac] 26) = W at *
  refine (alive_c W (HT.out.keep hg HB0.out)).mono ?_
  rintro e w1 ⟨rfl, hb1⟩
  have hxw : w.heap.size < W.heap.size := (Array.getElem?_eq_some_iff.1 HR0.out).1
  have HR1 := Lib.hid ((hb1.block _ hxw).trans HR0.out)
  have HB1 := Lib.hid (HB0.out.trans (hb1.mono HB0.out.size))
  have hxw1 : w.heap.size < w1.heap.size := Nat.lt_of_lt_of_le hxw hb1.size
  clear hb1 HR0 HB0 hxw
  clear W
  go_wp2_with (refine wpList_load_mid rfl 26 (.tmp 1) rfl w.heap.size 0 rfl [.int .i64 k, .string nm, .int .i64 n, .slice la ll lc, .slice aa al ac] _ (range_of_row5 HR1.out) Tryd.underlying26 rfl exprSize ?_)
  refine (small_c x _ _ w1 (HX.out.kept HB1.out) hok).mono ?_
  rintro e w2 ⟨b, rfl, hb2, hsm⟩
  have HR2 := Lib.hid ((hb2.block _ hxw1).trans HR1.out)
  have HB2 := Lib.hid (HB1.out.trans (hb2.mono HB1.out.size))
  have hxw2 : w.heap.size < w2.heap.size := Nat.lt_of_lt_of_le hxw1 hb2.size
  clear hb2 HR1 HB1 hxw1
  clear w1
  cases b
  · clear hsm
    go_wp2_with fail
    go_ret
    exact ⟨rfl, HB2.out⟩
  · obtain ⟨hs, he⟩ := hsm rfl
    obtain ⟨z0, z1, z2, z3, z4⟩ := cells5 HR2.out
    go_wp2_with fail
    refine (rcheck_c x _ _ w2 (HX.out.kept HB2.out) (by omega) he).mono ?_
    rintro e w3 ⟨rfl, hb3⟩
    have HR3 := Lib.hid ((hb3.block _ hxw2).trans HR2.out)
    have HB3 := Lib.hid (HB2.out.trans (hb3.mono HB2.out.size))
    have hxw3 : w.heap.size < w3.heap.size := Nat.lt_of_lt_of_le hxw2 hb3.size
    clear hb3 HR2 HB2 hxw2 z0 z1 z2 z3 z4
    clear w2
    by_cases hc : checkE x = 0
    · obtain ⟨hf, hsh, _, hsz, htl⟩ := checkE_zero hc
      have he2 := ent_short x hsh
      have HPT := Lib.hid (parse_text x hc)
      have HFT : Hid (formatE x = textE x) := by show _ = _; unfold formatE; rw [if_pos hc]
      rw [hc]
      go_wp2_with (refine wpList_load_mid rfl 26 (.tmp 1) rfl w.heap.size 0 rfl [.int .i64 k, .string nm, .int .i64 n, .slice la ll lc, .slice aa al ac] _ (range_of_row5 HR3.out) Tryd.underlying26 rfl exprSize ?_)
      refine (format_c x _ _ w3 (HX.out.kept HB3.out) (by omega) he (HT.out.keep hg HB3.out)).mono ?_
      rintro e w4 ⟨rfl, hb4⟩
      have HR4 := Lib.hid ((hb4.block _ hxw3).trans HR3.out)
      have HB4 := Lib.hid (HB3.out.trans (hb4.mono HB3.out.size))
      have hxw4 : w.heap.size < w4.heap.size := Nat.lt_of_lt_of_le hxw3 hb4.size
      rw [HFT.out]
      clear hb4 HR3 HB3 hxw3
      clear w3
      go_wp2_with fail
      refine (parse_c _ w4).mono ?_
      intro u w5 hp
      rw [show (⟨(textE x).toArray⟩ : ByteArray).data.toList = textE x from rfl, HPT.out] at hp
      obtain ⟨cs5, rfl, hx5, hb5⟩ := hp
      obtain ⟨k5, nm5, n5, la5, ll5, lc5, aa5, al5, ac5, rfl⟩ := hx5.shape
      have hba : Below w5.heap.size w5 (w5.alloc (.cells #[.int .i64 k5, .string nm5, .int .i64 n5, .slice la5 ll5 lc5, .slice aa5 al5 ac5] 26)) := (Below.refl _ _).alloc (Nat.le_refl _) _
      have hra : (w5.alloc (.cells #[.int .i64 k5, .string nm5, .int .i64 n5, .slice la5 ll5 lc5, .slice aa5 al5 ac5] 26)).heap[w5.heap.size]? = some (.cells #[.int .i64 k5, .string nm5, .int .i64 n5, .slice la5 ll5 lc5, .slice aa5 al5 ac5] 26 (0, 0)) := heap_alloc_new _ _
      have hb45 := hb5.trans (hba.mono hb5.size)
      have HB5 := Lib.hid (HB4.out.trans (hb45.mono HB4.out.size))
      obtain ⟨z0, z1, z2, z3, z4⟩ := cells5 ((hb45.block _ hxw4).trans HR4.out)
      obtain ⟨y0, y1, y2, y3, y4⟩ := cells5 hra
      have HXY := Lib.hid (hx5.grow hba)
      clear hb5 hx5 hba hra hb45 HR4 HB4
      go_wp2_with (refine wpList_store_new rfl 26 (.tmp 3) (.tmp 20) rfl w5 _ #[.int .i64 k5, .string nm5, .int .i64 n5, .slice la5 ll5 lc5, .slice aa5 al5 ac5] rfl rfl exprSize rfl (by simp [Value.oneCell']) ?_)
      generalize w5.alloc (.cells #[.int .i64 k5, .string nm5, .int .i64 n5, .slice la5 ll5 lc5, .slice aa5 al5 ac5] 26) = w6 at *
      refine (same_c x _ _ _ _ w6 (HX.out.kept HB5.out) HXY.out (by omega) (by omega)).mono ?_
      rintro e w7 ⟨rfl, hb7⟩
      have HB7 := Lib.hid (HB5.out.trans (hb7.mono HB5.out.size))
      clear hb7 z0 z1 z2 z3 z4 y0 y1 y2 y3 y4
      go_wp2_with fail
      go_ret
      exact ⟨rfl, HB7.out⟩
    · have hcl := checkE_le x
      generalize checkE x = z at *
      have hz : ¬ (z : Int) = 0 := by omega
      go_wp2_with fail
      go_ret
      exact ⟨rfl, HB3.out⟩
#print axioms lawBack_c
end Go.Proofs.YtbjagceopgofiaaDoor
