/-
  The walk of LangAgain.
-/
import Derived.Test.YtbjagceopgofiaaDoorRefE
import Derived.Test.YtbjagceopgofiaaDoorAlive
import Derived.Test.YtbjagceopgofiaaDoorPlainC
namespace Go.Proofs.YtbjagceopgofiaaDoor
open Go.RowKit

set_option maxHeartbeats 4000000 in
set_option maxRecDepth 100000 in
theorem lawAgain_err (s : ByteArray) (w : World) (ht : Pows w) (er p : Nat) (hR : parseM s.data.toList = .error (er, p)) :
    Calls Tryd.prog 7 #[.string s] w fun e w' => e = .returned (.bool true) ∧ Below w.heap.size w w' := by
  have HR := Lib.hid hR
  have HA := Lib.hid (alive_c w ht)
  have hne : ¬ (er : Int) = 0 := by have := (parse_err_at hR).1; omega
  clear hR ht
  go_enter Tryd.func7, Tryd.ntmps7
  go_wp2_with (go_at_call 12; refine HA.out.mono ?_)
  rintro e w1 ⟨rfl, hb1⟩
  have HB1 := Lib.hid hb1
  clear hb1
  go_wp2_with fail
  refine (parse_c s w1).mono ?_
  intro u w2 hp
  rw [HR.out] at hp
  obtain ⟨rfl, hb2⟩ := hp
  have HB2 := Lib.hid ((HB1.out.trans (hb2.mono HB1.out.size)).alloc (Nat.le_trans HB1.out.size hb2.size) (.cells zeroE 26))
  clear hb2
  go_wp2_with (refine wpList_store_new rfl 26 (.tmp 3) (.tmp 15) rfl w2 _ zeroE rfl rfl exprSize rfl (by simp [zeroE, Value.oneCell']) ?_)
  go_ret
  exact ⟨rfl, HB2.out⟩

set_option maxHeartbeats 4000000 in
set_option maxRecDepth 100000 in
theorem lawAgain_ok (s : ByteArray) (w : World) (ht : Pows w) (x : E) (hR : parseM s.data.toList = .ok x) :
    Calls Tryd.prog 7 #[.string s] w fun e w' => e = .returned (.bool true) ∧ Below w.heap.size w w' := by
  have HR := Lib.hid hR
  have HT := Lib.hid ht
  have hg := ht.lt
  have HA := Lib.hid (alive_c w ht)
  obtain ⟨hf, hsh, hd, hs⟩ := parse_props hR
  have he2 := ent_short x hsh
  have HCK := Lib.hid (parse_check hR)
  clear hR ht
  go_enter Tryd.func7, Tryd.ntmps7
  go_wp2_with (go_at_call 12; refine HA.out.mono ?_)
  rintro e w1 ⟨rfl, hb1⟩
  have HB1 := Lib.hid hb1
  clear hb1
  go_wp2_with fail
  refine (parse_c s w1).mono ?_
  intro u w2 hp
  rw [HR.out] at hp
  obtain ⟨cs, rfl, hx, hb2⟩ := hp
  obtain ⟨k, nm, n, la, ll, lc, aa, al, ac, rfl⟩ := hx.shape
  have hba : Below w2.heap.size w2 (w2.alloc (.cells #[.int .i64 k, .string nm, .int .i64 n, .slice la ll lc, .slice aa al ac] 26)) := (Below.refl _ _).alloc (Nat.le_refl _) _
  have hra : (w2.alloc (.cells #[.int .i64 k, .string nm, .int .i64 n, .slice la ll lc, .slice aa al ac] 26)).heap[w2.heap.size]? = some (.cells [.int .i64 k, .string nm, .int .i64 n, .slice la ll lc, .slice aa al ac].toArray 26 (0, 0)) := heap_alloc_new _ _
  have HX3 := Lib.hid (hx.all.grow hba)
  have HR3 := Lib.hid hra
  have HB3 := Lib.hid ((HB1.out.trans (hb2.mono HB1.out.size)).trans (hba.mono (Nat.le_trans HB1.out.size hb2.size)))
  clear hb2 hx hba hra HB1
  go_wp2_with (first
    | (refine wpList_store_new rfl 26 (.tmp 3) (.tmp 15) rfl w2 _ #[.int .i64 k, .string nm, .int .i64 n, .slice la ll lc, .slice aa al ac] rfl rfl exprSize rfl (by simp [Value.oneCell']) ?_)
    | (refine wpList_load_mid rfl 26 (.tmp 3) rfl w2.heap.size 0 rfl [.int .i64 k, .string nm, .int .i64 n, .slice la ll lc, .slice aa al ac] _ (range_of_row5 HR3.out) Tryd.underlying26 rfl exprSize ?_))
  generalize w2.alloc (.cells #[.int .i64 k, .string nm, .int .i64 n, .slice la ll lc, .slice aa al ac] 26) = w3 at *
  have hxw3 : w2.heap.size < w3.heap.size := (Array.getElem?_eq_some_iff.1 HR3.out).1
  generalize w2.heap.size = xb at *
  refine (check_c x _ _ w3 HX3.out (by omega) (by omega) (HT.out.keep hg HB3.out)).mono ?_
  rintro e w4 ⟨rfl, hb4⟩
  have HR4 := Lib.hid ((hb4.block _ hxw3).trans HR3.out)
  have HX4 := Lib.hid (HX3.out.grow hb4)
  have HB4 := Lib.hid (HB3.out.trans (hb4.mono HB3.out.size))
  have hxw4 : xb < w4.heap.size := Nat.lt_of_lt_of_le hxw3 hb4.size
  clear hb4 HR3 HB3 hxw3 HX3
  by_cases hov : 65536 < (textE x).length
  · have hck : checkE x = 8 := by rw [HCK.out, if_pos hov]
    rw [hck]
    have htl := text_len x hf
    have htl2 : (textE x).length ≤ 100000000000 := by omega
    obtain ⟨z0, z1, z2, z3, z4⟩ := cells5 HR4.out
    clear htl
    go_wp2_with fail
    refine (rtext_c x _ _ w4 HX4.out hf (by omega) (by omega)).mono ?_
    rintro e w5 ⟨rfl, hb5⟩
    have HB5 := Lib.hid (HB4.out.trans (hb5.mono HB4.out.size))
    clear hb5 z0 z1 z2 z3 z4
    generalize textE x = tx at *
    go_wp2_with fail
    go_ret
    exact ⟨ret_bool (decide_eq_true (by omega)), HB5.out⟩
  · have hck : checkE x = 0 := by rw [HCK.out, if_neg hov]
    have HPT := Lib.hid (parse_text x hck)
    have HFT : Hid (formatE x = textE x) := by show _ = _; unfold formatE; rw [if_pos hck]
    rw [hck]
    go_wp2_with (refine wpList_load_mid rfl 26 (.tmp 3) rfl xb 0 rfl [.int .i64 k, .string nm, .int .i64 n, .slice la ll lc, .slice aa al ac] _ (range_of_row5 HR4.out) Tryd.underlying26 rfl exprSize ?_)
    refine (format_c x _ _ w4 HX4.out (by omega) (by omega) (HT.out.keep hg HB4.out)).mono ?_
    rintro e w5 ⟨rfl, hb5⟩
    have HR5 := Lib.hid ((hb5.block _ hxw4).trans HR4.out)
    have HX5 := Lib.hid (HX4.out.grow hb5)
    have HB5 := Lib.hid (HB4.out.trans (hb5.mono HB4.out.size))
    have hxw5 : xb < w5.heap.size := Nat.lt_of_lt_of_le hxw4 hb5.size
    rw [HFT.out]
    clear hb5 HR4 HB4 hxw4 HX4
    go_wp2_with fail
    refine (parse_c _ w5).mono ?_
    intro u w6 hp
    rw [show (⟨(textE x).toArray⟩ : ByteArray).data.toList = textE x from rfl, HPT.out] at hp
    obtain ⟨cs6, rfl, hx6, hb6⟩ := hp
    obtain ⟨k6, nm6, n6, la6, ll6, lc6, aa6, al6, ac6, rfl⟩ := hx6.shape
    have hba : Below w6.heap.size w6 (w6.alloc (.cells #[.int .i64 k6, .string nm6, .int .i64 n6, .slice la6 ll6 lc6, .slice aa6 al6 ac6] 26)) := (Below.refl _ _).alloc (Nat.le_refl _) _
    have hra : (w6.alloc (.cells #[.int .i64 k6, .string nm6, .int .i64 n6, .slice la6 ll6 lc6, .slice aa6 al6 ac6] 26)).heap[w6.heap.size]? = some (.cells #[.int .i64 k6, .string nm6, .int .i64 n6, .slice la6 ll6 lc6, .slice aa6 al6 ac6] 26 (0, 0)) := heap_alloc_new _ _
    have hb56 := hb6.trans (hba.mono hb6.size)
    have HB6 := Lib.hid (HB5.out.trans (hb56.mono HB5.out.size))
    obtain ⟨z0, z1, z2, z3, z4⟩ := cells5 ((hb56.block _ hxw5).trans HR5.out)
    obtain ⟨y0, y1, y2, y3, y4⟩ := cells5 hra
    have HXY := Lib.hid (hx6.grow hba)
    have HX6 := Lib.hid (HX5.out.grow hb56)
    clear hb6 hx6 hba hra hb56 HR5 HB5 HX5
    go_wp2_with (refine wpList_store_new rfl 26 (.tmp 7) (.tmp 36) rfl w6 _ #[.int .i64 k6, .string nm6, .int .i64 n6, .slice la6 ll6 lc6, .slice aa6 al6 ac6] rfl rfl exprSize rfl (by simp [Value.oneCell']) ?_)
    generalize w6.alloc (.cells #[.int .i64 k6, .string nm6, .int .i64 n6, .slice la6 ll6 lc6, .slice aa6 al6 ac6] 26) = w7 at *
    refine (same_c x _ _ _ _ w7 HX6.out HXY.out (by omega) (by omega)).mono ?_
    rintro e w8 ⟨rfl, hb8⟩
    have HB8 := Lib.hid (HB6.out.trans (hb8.mono HB6.out.size))
    clear hb8 z0 z1 z2 z3 z4 y0 y1 y2 y3 y4
    go_wp2_with fail
    go_ret
    exact ⟨rfl, HB8.out⟩
theorem lawAgain_c (s : ByteArray) (w : World) (ht : Pows w) :
    Calls Tryd.prog 7 #[.string s] w fun e w' => e = .returned (.bool true) ∧ Below w.heap.size w w' := by
  cases hR : parseM s.data.toList with
  | error e => exact lawAgain_err s w ht e.1 e.2 hR
  | ok x => exact lawAgain_ok s w ht x hR
#print axioms lawAgain_c
end Go.Proofs.YtbjagceopgofiaaDoor
