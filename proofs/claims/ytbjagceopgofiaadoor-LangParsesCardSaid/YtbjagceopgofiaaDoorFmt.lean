/-
  lang.Format, by the text.
-/
import Derived.Test.YtbjagceopgofiaaDoorCheck
namespace Go.Proofs.YtbjagceopgofiaaDoor
open Go.RowKit

def formatE (x : E) : List UInt8 := if checkE x = 0 then textE x else []
theorem checkE_zero {x : E} (h : checkE x = 0) : formE x = true ∧ shortE x = true ∧ depthE x ≤ 32 ∧ sizeE x ≤ 1024 ∧ (textE x).length ≤ 65536 := by
  unfold checkE at h
  split at h
  · omega
  · rename_i h1
    split at h
    · omega
    · rename_i h2
      split at h
      · omega
      · rename_i h3
        refine ⟨by simpa using h1, ?_, ?_, ?_, by omega⟩
        · cases hs : shortE x
          · exact absurd (.inl hs) h2
          · rfl
        · exact Nat.le_of_not_lt fun h => h2 (.inr (.inl h))
        · exact Nat.le_of_not_lt fun h => h2 (.inr (.inr h))
theorem checkE_le (x : E) : checkE x = 0 ∨ checkE x = 5 ∨ checkE x = 8 := by
  unfold checkE
  repeat (first | split | simp)

set_option maxHeartbeats 4000000 in
set_option maxRecDepth 100000 in
theorem format_c (x : E) (cs : List Value) (F : Nat → Prop) (w : World) (h : ExprC w F x cs) (hs : sizeE x ≤ 1000000000) (he : entE x ≤ 9223372036854775807) (ht : Pows w) :
    Calls Tryd.prog 19 #[.agg cs.toArray] w fun e w' => e = .returned (.string ⟨(formatE x).toArray⟩) ∧ Below w.heap.size w w' := by
  obtain ⟨k, nm, n, la, ll, lc, aa, al, ac, rfl⟩ := h.shape
  have HX := Lib.hid h.all
  have HT := Lib.hid ht
  have hg := ht.lt
  clear h ht
  have hb0 : Below w.heap.size w (w.alloc (.cells #[.int .i64 k, .string nm, .int .i64 n, .slice la ll lc, .slice aa al ac] 26)) := (Below.refl _ _).alloc (Nat.le_refl _) _
  have hr0 : (w.alloc (.cells #[.int .i64 k, .string nm, .int .i64 n, .slice la ll lc, .slice aa al ac] 26)).heap[w.heap.size]? = some (.cells #[.int .i64 k, .string nm, .int .i64 n, .slice la ll lc, .slice aa al ac] 26 (0, 0)) := heap_alloc_new _ _
  have HR0 := Lib.hid hr0
  have HB0 := Lib.hid hb0
  clear hr0 hb0
  go_enter Tryd.func19, Tryd.ntmps19
  go_wp2_with fail
  generalize w.alloc (.cells #[.int .i64 k, .string nm, .int .i64 n, .slice la ll lc, .slice aa al ac] 26) = W at *
  refine (check_c x _ _ W (HX.out.kept HB0.out) hs he (HT.out.keep hg HB0.out)).mono ?_
  rintro e w3 ⟨rfl, hb1⟩
  have hxw : w.heap.size < W.heap.size := (Array.getElem?_eq_some_iff.1 HR0.out).1
  have HR3 := Lib.hid ((hb1.block _ hxw).trans HR0.out)
  have HB3 := Lib.hid (HB0.out.trans (hb1.mono HB0.out.size))
  have hxw3 : w.heap.size < w3.heap.size := Nat.lt_of_lt_of_le hxw hb1.size
  clear hb1 HR0 HB0 hxw
  clear W
  have HFT : Hid (formatE x = if checkE x = 0 then textE x else []) := rfl
  by_cases hc : checkE x = 0
  · obtain ⟨hf, hsh, _, hsz, htl⟩ := checkE_zero hc
    have he2 := ent_short x hsh
    rw [if_pos hc] at HFT
    rw [hc]
    have hbn : Below w3.heap.size w3 (w3.alloc (.cells #[.pointer none, .slice none 0 0] 65)) := (Below.refl _ _).alloc (Nat.le_refl _) _
    obtain ⟨z0, z1, z2, z3, z4⟩ := cells5 ((hbn.block _ hxw3).trans HR3.out)
    have HBN := Lib.hid (HB3.out.trans (hbn.mono HB3.out.size))
    have HFR := Lib.hid (isBuilder_fresh 65 5 w3)
    have hsw : w3.heap.size ≤ (w3.alloc (.cells #[.pointer none, .slice none 0 0] 65)).heap.size := hbn.size
    have HSW := Lib.hid hsw
    clear hbn hsw
    go_wp2_with fail
    generalize w3.alloc (.cells #[.pointer none, .slice none 0 0] 65) = w4 at *
    have hB3 := HB3.out.size
    refine (write_c x _ w3.heap.size w3.heap.size [] w4 (ExprC.mono (fun b hF _ => ⟨Nat.lt_of_lt_of_le hF hB3, HBN.out.block b hF⟩) _ _ HX.out) hf hs (by omega) HFR.out HSW.out (HT.out.keep hg HBN.out) (Nat.lt_of_lt_of_le hg hB3) (by simp; omega)).mono ?_
    rintro e w5 ⟨rfl, t, hwt, hb5, hk5⟩
    have HB5 := Lib.hid (HBN.out.trans (hk5.1.mono hB3))
    rw [List.nil_append] at hb5
    have het : t = textE x := by
      rcases hwt with h | ⟨h1, h2⟩
      · exact h
      · simp at h1
        omega
    subst het
    have HSW5 := Lib.hid (Nat.le_trans HSW.out hk5.1.size)
    have HL := Lib.hid (Tryd.Builder_String_any_f _ _ _ _ hb5 HSW5.out)
    clear hk5 hb5 hwt HFR z0 z1 z2 z3 z4
    go_wp2_with (go_at_call 40; refine HL.out.mono ?_)
    rintro e w6 ⟨rfl, _, hb6⟩
    have HB6 := Lib.hid (HB5.out.trans (hb6.mono hB3))
    clear hb6
    go_wp2_with fail
    go_ret
    exact ⟨ret_str (by rw [HFT.out]), HB6.out⟩
  · rw [if_neg hc] at HFT
    have hcl := checkE_le x
    generalize checkE x = z at *
    have hz : ¬ (z : Int) = 0 := by omega
    go_wp2_with fail
    go_ret
    exact ⟨ret_str (by rw [HFT.out]), HB3.out⟩
#print axioms format_c
end Go.Proofs.YtbjagceopgofiaaDoor
