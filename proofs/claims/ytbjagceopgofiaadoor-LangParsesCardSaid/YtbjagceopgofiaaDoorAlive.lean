/-
  The chapter's examples, which each law tries first.
-/
import Derived.Test.YtbjagceopgofiaaDoorFmt
import Derived.Test.YtbjagceopgofiaaDoorParse
namespace Go.Proofs.YtbjagceopgofiaaDoor
open Go.RowKit

def aliveX : E := .mk 3 [114, 115] 0 [] [.mk 3 [103, 102] 0 [] [.mk 1 [] 8 [] []], .mk 1 [] 7 [] [], .mk 1 [] 3 [] []]
theorem alive_p1 : parseM [114, 115, 40, 32, 103, 102, 40, 56, 41, 32, 44, 55, 44, 51, 41] = .ok aliveX := by kernel_rfl
theorem alive_p2 : parseM [102, 40, 49, 44, 44, 50, 41] = .error (14, 4) := by kernel_rfl
theorem alive_size : sizeE aliveX = 5 := by kernel_rfl
theorem alive_ent : entE aliveX = 0 := by kernel_rfl
theorem alive_fmt : formatE aliveX = [114, 115, 40, 103, 102, 40, 56, 41, 44, 32, 55, 44, 32, 51, 41] := by kernel_rfl

set_option maxHeartbeats 4000000 in
set_option maxRecDepth 100000 in
theorem alive_c (w : World) (ht : Pows w) : Calls Tryd.prog 12 #[] w fun e w' => e = .returned (.bool true) ∧ Below w.heap.size w w' := by
  have HT := Lib.hid ht
  clear ht
  go_enter Tryd.func12, Tryd.ntmps12
  go_wp2_with fail
  refine (parse_c _ w).mono ?_
  intro x w1 hp
  rw [show (⟨#[114, 115, 40, 32, 103, 102, 40, 56, 41, 32, 44, 55, 44, 51, 41]⟩ : ByteArray).data.toList = [114, 115, 40, 32, 103, 102, 40, 56, 41, 32, 44, 55, 44, 51, 41] from rfl, alive_p1] at hp
  obtain ⟨cs, rfl, hx, hb1⟩ := hp
  obtain ⟨k, nm, n, la, ll, lc, aa, al, ac, rfl⟩ := hx.shape
  have hb2 : Below w1.heap.size w1 (w1.alloc (.cells #[.int .i64 k, .string nm, .int .i64 n, .slice la ll lc, .slice aa al ac] 26)) := (Below.refl _ _).alloc (Nat.le_refl _) _
  have HR2 : Hid ((w1.alloc (.cells #[.int .i64 k, .string nm, .int .i64 n, .slice la ll lc, .slice aa al ac] 26)).heap[w1.heap.size]? = some (.cells #[.int .i64 k, .string nm, .int .i64 n, .slice la ll lc, .slice aa al ac] 26 (0, 0))) := heap_alloc_new _ _
  have HX2 := Lib.hid (hx.all.grow hb2)
  have HB2 := Lib.hid (hb1.trans (hb2.mono hb1.size))
  clear hx hb1 hb2
  go_wp2_with (refine wpList_store_new rfl 26 (.tmp 1) (.tmp 9) rfl w1 _ #[.int .i64 k, .string nm, .int .i64 n, .slice la ll lc, .slice aa al ac] rfl rfl exprSize rfl (by simp [Value.oneCell']) ?_)
  generalize w1.alloc (.cells #[.int .i64 k, .string nm, .int .i64 n, .slice la ll lc, .slice aa al ac] 26) = w2 at *
  generalize w1.heap.size = xb at *
  have hxw : xb < w2.heap.size := (Array.getElem?_eq_some_iff.1 HR2.out).1
  refine (parse_c _ w2).mono ?_
  intro x w3 hp
  rw [show (⟨#[102, 40, 49, 44, 44, 50, 41]⟩ : ByteArray).data.toList = [102, 40, 49, 44, 44, 50, 41] from rfl, alive_p2] at hp
  obtain ⟨rfl, hb3⟩ := hp
  have hb4 : Below w3.heap.size w3 (w3.alloc (.cells zeroE 26)) := (Below.refl _ _).alloc (Nat.le_refl _) _
  have hb5 := hb3.trans (hb4.mono hb3.size)
  obtain ⟨z0, z1, z2, z3, z4⟩ := cells5 ((hb5.block _ hxw).trans HR2.out)
  have HX4 := Lib.hid (HX2.out.grow hb5)
  have HB4 := Lib.hid (HB2.out.trans (hb5.mono HB2.out.size))
  have HR4 := Lib.hid ((hb5.block _ hxw).trans HR2.out)
  have hxw4 : xb < (w3.alloc (.cells zeroE 26)).heap.size := Nat.lt_of_lt_of_le hxw hb5.size
  clear hb3 hb4 hb5 HX2 HB2 HR2
  go_wp2_with (refine wpList_store_new rfl 26 (.tmp 4) (.tmp 14) rfl w3 _ zeroE rfl rfl exprSize rfl (by simp [zeroE, Value.oneCell']) ?_)
  generalize w3.alloc (.cells zeroE 26) = w4 at *
  clear z0 z1 z2 z3 z4
  refine (format_c aliveX _ _ w4 HX4.out (by rw [alive_size]; omega) (by rw [alive_ent]; omega) (HT.out.keep HT.out.lt HB4.out)).mono ?_
  rintro e w5 ⟨rfl, hb5⟩
  obtain ⟨z0, z1, z2, z3, z4⟩ := cells5 ((hb5.block _ hxw4).trans HR4.out)
  have HX5 := Lib.hid (HX4.out.grow hb5)
  have HB5 := Lib.hid (HB4.out.trans (hb5.mono HB4.out.size))
  rw [alive_fmt]
  clear hb5 HX4 HB4 HR4
  go_wp2_with fail
  refine (size_c aliveX _ _ w5 HX5.out (by rw [alive_size]; omega)).mono ?_
  rintro e w6 ⟨rfl, hb6⟩
  rw [alive_size]
  have HB6 := Lib.hid (HB5.out.trans (hb6.mono HB5.out.size))
  clear hb6 HX5 HB5 z0 z1 z2 z3 z4
  go_wp2_with fail
  go_ret
  exact ⟨rfl, HB6.out⟩
#print axioms alive_c
end Go.Proofs.YtbjagceopgofiaaDoor
