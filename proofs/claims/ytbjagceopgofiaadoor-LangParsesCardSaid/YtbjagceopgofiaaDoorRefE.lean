/-
  The reference's Check, and Same at equal expressions.
-/
import Derived.Test.YtbjagceopgofiaaDoorRefC
import Derived.Test.YtbjagceopgofiaaDoorRefD
namespace Go.Proofs.YtbjagceopgofiaaDoor
open Go.RowKit

set_option maxHeartbeats 4000000 in
set_option maxRecDepth 100000 in
theorem rcheck_c (x : E) (cs : List Value) (F : Nat → Prop) (w : World) (h : ExprC w F x cs) (hs : sizeE x ≤ 1000000000) (he : entE x ≤ 9223372036854775807) :
    Calls Tryd.prog 18 #[.agg cs.toArray] w fun e w' => e = .returned (.int .i64 (checkE x)) ∧ Below w.heap.size w w' := by
  obtain ⟨k, nm, n, la, ll, lc, aa, al, ac, rfl⟩ := h.shape
  have HX := Lib.hid h.all
  clear h
  have hb0 : Below w.heap.size w (w.alloc (.cells #[.int .i64 k, .string nm, .int .i64 n, .slice la ll lc, .slice aa al ac] 26)) := (Below.refl _ _).alloc (Nat.le_refl _) _
  have hr0 : (w.alloc (.cells #[.int .i64 k, .string nm, .int .i64 n, .slice la ll lc, .slice aa al ac] 26)).heap[w.heap.size]? = some (.cells [.int .i64 k, .string nm, .int .i64 n, .slice la ll lc, .slice aa al ac].toArray 26 (0, 0)) := heap_alloc_new _ _
  have HR0 := Lib.hid hr0
  have HB0 := Lib.hid hb0
  clear hr0 hb0
  go_enter Tryd.func18, Tryd.ntmps18
  go_wp2_with fail
  generalize w.alloc (.cells #[.int .i64 k, .string nm, .int .i64 n, .slice la ll lc, .slice aa al ac] 26) = W at *
  refine (rform_c x _ _ W (HX.out.kept HB0.out) hs he).mono ?_
  rintro e w1 ⟨rfl, hb1⟩
  have hxw : w.heap.size < W.heap.size := (Array.getElem?_eq_some_iff.1 HR0.out).1
  have HR1 := Lib.hid ((hb1.block _ hxw).trans HR0.out)
  have HB1 := Lib.hid (HB0.out.trans (hb1.mono HB0.out.size))
  have hxw1 : w.heap.size < w1.heap.size := Nat.lt_of_lt_of_le hxw hb1.size
  clear hb1 HR0 HB0 hxw
  clear W
  cases hf : formE x
  · go_wp2_with fail
    go_ret
    exact ⟨ret_int (by unfold checkE; rw [if_pos hf]; rfl), HB1.out⟩
  · have HF : Hid (checkE x = if shortE x = false ∨ 32 < depthE x ∨ 1024 < sizeE x then 8 else if 65536 < (textE x).length then 8 else 0) := by show _ = _; unfold checkE; rw [hf]; rfl
    have hdp : depthE x ≤ 1000000000 := by have := depth_size x; omega
    go_wp2_with (refine wpList_load_mid rfl 26 (.tmp 1) rfl w.heap.size 0 rfl [.int .i64 k, .string nm, .int .i64 n, .slice la ll lc, .slice aa al ac] _ (range_of_row5 HR1.out) Tryd.underlying26 rfl exprSize ?_)
    refine (rlong_c x _ _ w1 (HX.out.kept HB1.out) hs he).mono ?_
    rintro e w2 ⟨rfl, hb2⟩
    have HR2 := Lib.hid ((hb2.block _ hxw1).trans HR1.out)
    have HB2 := Lib.hid (HB1.out.trans (hb2.mono HB1.out.size))
    have hxw2 : w.heap.size < w2.heap.size := Nat.lt_of_lt_of_le hxw1 hb2.size
    clear hb2 HR1 HB1 hxw1
    clear w1
    cases hsh : shortE x
    · go_wp2_with fail
      go_ret
      exact ⟨ret_int (by rw [HF.out, if_pos (.inl hsh)]; rfl), HB2.out⟩
    · obtain ⟨z0, z1, z2, z3, z4⟩ := cells5 HR2.out
      go_wp2_with fail
      refine (rsize_c x _ _ w2 (HX.out.kept HB2.out) hs).mono ?_
      rintro e w3 ⟨rfl, hb3⟩
      have HR3 := Lib.hid ((hb3.block _ hxw2).trans HR2.out)
      have HB3 := Lib.hid (HB2.out.trans (hb3.mono HB2.out.size))
      have hxw3 : w.heap.size < w3.heap.size := Nat.lt_of_lt_of_le hxw2 hb3.size
      clear hb3 HR2 HB2 hxw2 z0 z1 z2 z3 z4
      clear w2
      by_cases hsz : 1024 < sizeE x
      · go_wp2_with fail
        go_ret
        exact ⟨ret_int (by rw [HF.out, if_pos (.inr (.inr hsz))]; rfl), HB3.out⟩
      · obtain ⟨z0, z1, z2, z3, z4⟩ := cells5 HR3.out
        go_wp2_with fail
        refine (rdepth_c x _ _ w3 (HX.out.kept HB3.out) hs).mono ?_
        rintro e w4 ⟨rfl, hb4⟩
        have HR4 := Lib.hid ((hb4.block _ hxw3).trans HR3.out)
        have HB4 := Lib.hid (HB3.out.trans (hb4.mono HB3.out.size))
        clear hb4 HR3 HB3 hxw3 z0 z1 z2 z3 z4
        clear w3
        by_cases hdd : 32 < depthE x
        · go_wp2_with fail
          go_ret
          exact ⟨ret_int (by rw [HF.out, if_pos (.inr (.inl hdd))]; rfl), HB4.out⟩
        · have HF2 : Hid (checkE x = if 65536 < (textE x).length then 8 else 0) := by
            show _ = _
            rw [HF.out, if_neg]
            rintro (h | h | h)
            · rw [hsh] at h; cases h
            · exact hdd h
            · exact hsz h
          have he2 := ent_short x hsh
          have he3 : entE x ≤ 1000000000 := by omega
          have htl := text_len x hf
          have htl2 : (textE x).length ≤ 100000000000 := by omega
          obtain ⟨z0, z1, z2, z3, z4⟩ := cells5 HR4.out
          clear HF htl he2
          go_wp2_with fail
          refine (rtext_c x _ _ w4 (HX.out.kept HB4.out) hf hs he3).mono ?_
          rintro e w5 ⟨rfl, hb5⟩
          have HB5 := Lib.hid (HB4.out.trans (hb5.mono HB4.out.size))
          clear hb5 z0 z1 z2 z3 z4
          generalize textE x = tx at *
          by_cases hov : 65536 < tx.length
          · go_wp2_with fail
            go_ret
            exact ⟨ret_int (by rw [HF2.out, if_pos hov]; rfl), HB5.out⟩
          · go_wp2_with fail
            go_ret
            exact ⟨ret_int (by rw [HF2.out, if_neg hov]; rfl), HB5.out⟩
#print axioms rcheck_c

def SBw (a w : World) : Prop := Below a.heap.size a w
theorem SBw.cell_ {a w : World} (h : SBw a w) {b o : Nat} {v : Value} (hc : a.cell? ⟨b, o, none⟩ = some v) : w.cell? ⟨b, o, none⟩ = some v :=
  (Below.cell h (p := ⟨b, o, none⟩) (World.block_lt_of_cell? a _ hc)).trans hc
def RelS (W : World) (N : Nat) (v : Value) (g : Nat) (wr : World) : Prop := ∃ i, i + g = N ∧ v = .int .i64 i ∧ Below W.heap.size W wr
set_option maxHeartbeats 4000000 in
set_option maxRecDepth 100000 in
theorem same_c : ∀ (x : E) (cs cs' : List Value) (F G : Nat → Prop) (w : World), ExprC w F x cs → ExprC w G x cs' → sizeE x ≤ 1000000000 → entE x ≤ 1000000000 →
    Calls Tryd.prog 15 #[.agg cs.toArray, .agg cs'.toArray] w fun e w' => e = .returned (.bool true) ∧ Below w.heap.size w w' := by
  refine expr_ind_ ?_
  intro k nm n ls xs ih cs cs' F G w h h' hs he
  have hxx := h
  have hyy := h'
  unfold ExprC at h h'
  obtain ⟨la, lc, aa, ac, rfl, hi, ha⟩ := h
  obtain ⟨la', lc', aa', ac', rfl, hi', ha'⟩ := h'
  have hs' : 1 + sizeL xs ≤ 1000000000 := by unfold sizeE at hs; exact hs
  have he' : ls.length + entL xs ≤ 1000000000 := by unfold entE at he; exact he
  have hlen : xs.length ≤ 1000000000 := by have := len_sizeL xs; omega
  have hll : ls.length ≤ 1000000000 := by omega
  have HIH : Hid (∀ (i : Nat) (h : i < xs.length) (cs cs' : List Value) (w' : World), ExprC w' F xs[i] cs → ExprC w' G xs[i] cs' → Calls Tryd.prog 15 #[.agg cs.toArray, .agg cs'.toArray] w' fun e w'' => e = .returned (.bool true) ∧ Below w'.heap.size w' w'') := by
    intro i h cs1 cs2 w' he1 he2
    exact ih _ (List.getElem_mem h) cs1 cs2 F G w' he1 he2 (by have := sizeL_mem xs _ (List.getElem_mem h); omega) (by have := entL_mem xs _ (List.getElem_mem h); omega)
  have HA : Hid (ArgsAt w F aa xs) := ha
  have HA' : Hid (ArgsAt w G aa' xs) := ha'
  have HI := Lib.hid hi
  have HI' := Lib.hid hi'
  clear ih ha hi ha' hi' hs he hs' he' hxx hyy
  have hb0 : Below w.heap.size w ((w.alloc (.cells #[.int .i64 k, .string ⟨nm.toArray⟩, .int .i64 n, .slice la ls.length lc, .slice aa xs.length ac] 26)).alloc (.cells #[.int .i64 k, .string ⟨nm.toArray⟩, .int .i64 n, .slice la' ls.length lc', .slice aa' xs.length ac'] 26)) := ((Below.refl _ _).alloc (Nat.le_refl _) _).alloc (by simp) _
  have s1 : (w.alloc (.cells #[.int .i64 k, .string ⟨nm.toArray⟩, .int .i64 n, .slice la ls.length lc, .slice aa xs.length ac] 26)).heap.size = w.heap.size + 1 := World.size_alloc _ _
  have hR1 : ((w.alloc (.cells #[.int .i64 k, .string ⟨nm.toArray⟩, .int .i64 n, .slice la ls.length lc, .slice aa xs.length ac] 26)).alloc (.cells #[.int .i64 k, .string ⟨nm.toArray⟩, .int .i64 n, .slice la' ls.length lc', .slice aa' xs.length ac'] 26)).heap[w.heap.size]? = some (.cells #[.int .i64 k, .string ⟨nm.toArray⟩, .int .i64 n, .slice la ls.length lc, .slice aa xs.length ac] 26 (0, 0)) := by
    rw [Lib.alloc_old _ _ _ (by rw [s1]; omega)]; exact heap_alloc_new _ _
  have hR2 : ((w.alloc (.cells #[.int .i64 k, .string ⟨nm.toArray⟩, .int .i64 n, .slice la ls.length lc, .slice aa xs.length ac] 26)).alloc (.cells #[.int .i64 k, .string ⟨nm.toArray⟩, .int .i64 n, .slice la' ls.length lc', .slice aa' xs.length ac'] 26)).heap[w.heap.size + 1]? = some (.cells #[.int .i64 k, .string ⟨nm.toArray⟩, .int .i64 n, .slice la' ls.length lc', .slice aa' xs.length ac'] 26 (0, 0)) := by
    rw [← s1]; exact heap_alloc_new _ _
  have HI1 := Lib.hid (HI.out.mono (fun b hF hlt => ⟨hF, hb0.block b hlt⟩))
  have HI2 := Lib.hid (HI'.out.mono (fun b hF hlt => ⟨hF, hb0.block b hlt⟩))
  have HA1 := Lib.hid (HA.out.grow hb0)
  have HA2 := Lib.hid (HA'.out.grow hb0)
  have HB0 := Lib.hid hb0
  have HR1 := Lib.hid hR1
  have HR2 := Lib.hid hR2
  clear hb0 HI HI' HA HA' s1
  obtain ⟨c0, c1, c2, c3, c4⟩ := cells5 hR1
  obtain ⟨d0, d1, d2, d3, d4⟩ := cells5 hR2
  clear hR1 hR2
  go_enter Tryd.func15, Tryd.ntmps15
  go_upto_region 1 with fail
  go_simp
  generalize (w.alloc (.cells #[.int .i64 k, .string ⟨nm.toArray⟩, .int .i64 n, .slice la ls.length lc, .slice aa xs.length ac] 26)).alloc (.cells #[.int .i64 k, .string ⟨nm.toArray⟩, .int .i64 n, .slice la' ls.length lc', .slice aa' xs.length ac'] 26) = W at *
  have hxb : w.heap.size < W.heap.size := (Array.getElem?_eq_some_iff.1 HR1.out).1
  have hyb : w.heap.size + 1 < W.heap.size := (Array.getElem?_eq_some_iff.1 HR2.out).1
  go_wp2_with fail
  clear c0 c1 c2 c3 c4 d0 d1 d2 d3 d4
  go_loopg [5] ls.length (fun g v wr => RelS W ls.length v g wr)
  case atStart => exact ⟨0, by omega, rfl, Below.refl _ _⟩
  case round =>
    obtain ⟨i, hig, rfl, hbr⟩ := hrel
    have HBR := Lib.hid hbr
    obtain ⟨_, _, _, c3, c4⟩ := cells5 ((hbr.block _ hxb).trans HR1.out)
    obtain ⟨_, _, _, d3, d4⟩ := cells5 ((hbr.block _ hyb).trans HR2.out)
    by_cases hi : i < ls.length
    · obtain ⟨b, o, rfl, _, hc1⟩ := (HI1.out.mono (fun b hF hlt => ⟨hF, hbr.block b hlt⟩)) (by omega)
      obtain ⟨b', o', rfl, _, hc2⟩ := (HI2.out.mono (fun b hF hlt => ⟨hF, hbr.block b hlt⟩)) (by omega)
      have p1 := hc1 i hi
      have p2 := hc2 i hi
      have hi0 : (0 : Int) ≤ (i : Int) := by omega
      have hi1 : (i : Int) < (ls.length : Int) := by omega
      generalize ls.getD i 0 = z at *
      have HFC : Hid (∀ w', SBw wr w' → w'.cell? ⟨w.heap.size, 3, none⟩ = some (.slice (some ⟨b, o, none⟩) ls.length lc) ∧ w'.cell? ⟨w.heap.size + 1, 3, none⟩ = some (.slice (some ⟨b', o', none⟩) ls.length lc') ∧ w'.cell? ⟨b, o + i, none⟩ = some (.int .i64 z) ∧ w'.cell? ⟨b', o' + i, none⟩ = some (.int .i64 z)) := by
        intro w' hw'
        exact ⟨hw'.cell_ c3, hw'.cell_ d3, hw'.cell_ p1, hw'.cell_ p2⟩
      clear hc1 hc2 hbr HI1 HI2 HA1 HA2 HIH c4 d4
      go_upto_region 6 with fail
      refine wp_region_keep (SBw wr) (by kernel_rfl) (by kernel_rfl) ((Below.refl _ _).drew) ?_
      repeat (apply keep_val rfl
              · intro W' hS
                obtain ⟨e0, e1, e2, e3⟩ := HFC.out W' hS
                go_simp
                try rfl
              go_simp)
      refine wpKeep_nil ?_
      intro w5 hS5
      have HB5 := Lib.hid (HBR.out.trans (Below.mono hS5 HBR.out.size))
      clear hS5
      go_wp2_with fail
      go_roundg (ls.length - (i + 1))
      case measure => omega
      case rel => exact ⟨i + 1, by omega, by simp, HB5.out⟩
    · have HA1r := Lib.hid (HA1.out.grow hbr)
      have HA2r := Lib.hid (HA2.out.grow hbr)
      have HR1r := Lib.hid ((hbr.block _ hxb).trans HR1.out)
      have HR2r := Lib.hid ((hbr.block _ hyb).trans HR2.out)
      have hxr : w.heap.size < wr.heap.size := Nat.lt_of_lt_of_le hxb hbr.size
      have hyr : w.heap.size + 1 < wr.heap.size := Nat.lt_of_lt_of_le hyb hbr.size
      have HB1 := Lib.hid (HB0.out.trans (hbr.mono HB0.out.size))
      clear hbr HBR HA1 HA2 HI1 HI2 HR1 HR2 hxb hyb HB0
      go_wp2_with fail
      clear c3 c4 d3 d4
      generalize hV : wr = V at *
      clear hV hig
      go_loopg [6] xs.length (fun g v wr => RelS V xs.length v g wr)
      case atStart => exact ⟨0, by omega, rfl, Below.refl _ _⟩
      case round =>
        obtain ⟨j, hjg, rfl, hbr⟩ := hrel
        have HBR := Lib.hid hbr
        obtain ⟨_, _, _, _, c4⟩ := cells5 ((hbr.block _ hxr).trans HR1r.out)
        obtain ⟨_, _, _, _, d4⟩ := cells5 ((hbr.block _ hyr).trans HR2r.out)
        by_cases hj : j < xs.length
        · obtain ⟨b1, o1, k1, nm1, n1, la1, ll1, lc1, ab1, al1, ac1, rfl, hrg1, hec1⟩ := (HA1r.out.grow hbr).at_ hj
          obtain ⟨b2, o2, k2, nm2, n2, la2, ll2, lc2, ab2, al2, ac2, rfl, hrg2, hec2⟩ := (HA2r.out.grow hbr).at_ hj
          have HC : Hid (∀ w', SBw wr w' → Calls Tryd.prog 15 #[.agg #[.int .i64 k1, .string nm1, .int .i64 n1, .slice la1 ll1 lc1, .slice ab1 al1 ac1], .agg #[.int .i64 k2, .string nm2, .int .i64 n2, .slice la2 ll2 lc2, .slice ab2 al2 ac2]] w' fun e w'' => e = .returned (.bool true) ∧ Below w'.heap.size w' w'') :=
            fun w' hw' => HIH.out j hj _ _ w' (hec1.grow hw') (hec2.grow hw')
          have HFC : Hid (∀ w', SBw wr w' → w'.cell? ⟨w.heap.size, 4, none⟩ = some (.slice (some ⟨b1, o1, none⟩) xs.length ac) ∧ w'.cell? ⟨w.heap.size + 1, 4, none⟩ = some (.slice (some ⟨b2, o2, none⟩) xs.length ac')) := by
            intro w' hw'
            exact ⟨hw'.cell_ c4, hw'.cell_ d4⟩
          have hb1 : b1 < wr.heap.size := range_lt hrg1 (by simp)
          have hb2 : b2 < wr.heap.size := range_lt hrg2 (by simp)
          have HG1 := Lib.hid hrg1
          have HG2 := Lib.hid hrg2
          have hj0 : (0 : Int) ≤ (j : Int) := by omega
          have hj1 : (j : Int) < (xs.length : Int) := by omega
          clear hbr hrg1 hrg2 hec1 hec2 HA1r HA2r HIH
          go_upto_region 11 with fail
          refine wp_region_keep (SBw wr) (by kernel_rfl) (by kernel_rfl) ((Below.refl _ _).drew) ?_
          repeat (first
            | (refine keep_load_mid rfl 26 (.tmp 72) rfl b1 (o1 + j * 5) rfl [.int .i64 k1, .string nm1, .int .i64 n1, .slice la1 ll1 lc1, .slice ab1 al1 ac1] _ (fun w' hS => rangeAt_kept HG1.out hS hb1) Tryd.underlying26 rfl exprSize ?_
               go_simp)
            | (refine keep_load_mid rfl 26 (.tmp 77) rfl b2 (o2 + j * 5) rfl [.int .i64 k2, .string nm2, .int .i64 n2, .slice la2 ll2 lc2, .slice ab2 al2 ac2] _ (fun w' hS => rangeAt_kept HG2.out hS hb2) Tryd.underlying26 rfl exprSize ?_
               go_simp)
            | (apply keep_val rfl
               · intro W' hS
                 obtain ⟨e0, e1⟩ := HFC.out W' hS
                 go_simp
                 try rfl
               go_simp)
            | (apply keep_call rfl
               · intro W' hS
                 go_simp
                 exact ⟨rfl, rfl⟩
               · intro W' hS
                 exact (HC.out W' hS).mono (by rintro e w' ⟨rfl, hbw⟩; exact ⟨rfl, Below.trans hS (hbw.mono (Below.size hS))⟩)
               go_simp))
          refine wpKeep_nil ?_
          intro w5 hS5
          have HB5 := Lib.hid (HBR.out.trans (Below.mono hS5 HBR.out.size))
          clear hS5
          go_wp2_with fail
          go_roundg (xs.length - (j + 1))
          case measure => omega
          case rel => exact ⟨j + 1, by omega, by simp, HB5.out⟩
        · clear hbr
          go_wp2_with fail
          go_ret
          exact ⟨rfl, HB1.out.trans (HBR.out.mono HB1.out.size)⟩
#print axioms same_c
end Go.Proofs.YtbjagceopgofiaaDoor
