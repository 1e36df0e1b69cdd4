/-
  lang.write, by the text of an expression.
-/
import Derived.Test.YtbjagceopgofiaaDoorWriteB
namespace Go.Proofs.YtbjagceopgofiaaDoor
open Go.RowKit

theorem formE_mk {k : Int} {nm : List UInt8} {n : Int} {ls : List Int} {xs : List E} (h : formE (.mk k nm n ls xs) = true) : nodeB (.mk k nm n ls xs) = true ∧ formL xs = true := by
  unfold formE at h
  simpa using h
theorem formL_all : ∀ {l : List E}, formL l = true → ∀ x ∈ l, formE x = true
  | [], _, x, hx => by simp at hx
  | y :: r, h, x, hx => by
    unfold formL at h
    simp only [Bool.and_eq_true] at h
    rcases List.mem_cons.1 hx with rfl | hx
    · exact h.1
    · exact formL_all h.2 x hx
theorem nodeB_kind {k : Int} {nm : List UInt8} {n : Int} {ls : List Int} {xs : List E} (h : nodeB (.mk k nm n ls xs) = true) : k = 1 ∨ k = 2 ∨ k = 3 ∨ k = 4 := by
  by_cases h1 : k = 1
  · exact .inl h1
  · by_cases h2 : k = 2
    · exact .inr (.inl h2)
    · by_cases h3 : k = 3
      · exact .inr (.inr (.inl h3))
      · by_cases h4 : k = 4
        · exact .inr (.inr (.inr h4))
        · simp [nodeB, h1, h2, h3, h4] at h
theorem nodeB_lits {k : Int} {nm : List UInt8} {n : Int} {ls : List Int} {xs : List E} (h : nodeB (.mk k nm n ls xs) = true) : ls.all litB = true := by
  unfold nodeB at h
  simp only [Bool.and_eq_true] at h
  exact h.1
theorem nodeB_n {k : Int} {nm : List UInt8} {n : Int} {ls : List Int} {xs : List E} (h : nodeB (.mk k nm n ls xs) = true) (hk : k = 1) : 0 ≤ n ∧ n ≤ 9999999 := by
  unfold nodeB at h
  simp only [Bool.and_eq_true, hk, if_true] at h
  have := h.2.1.1.1
  simpa [litB] using this
/-- The two cells of the parameters. -/
theorem st_start {B b : Nat} {bs : List UInt8} {w : World} {k : Int} {nm : List UInt8} {n : Int} {ls : List Int} {xs : List E} {cs : List Value} (hx : ExprC w (· < B) (.mk k nm n ls xs) cs) (hbd : Bld B b bs w) (hB : B ≤ w.heap.size) (ht : Pows w) (hg : 1 < B) :
    St B b w.heap.size (w.heap.size + 1) (.mk k nm n ls xs) cs bs ((w.alloc (.cells #[.pointer (some ⟨b, 0, none⟩)] 62)).alloc (.cells cs.toArray 26)) ∧ Kept B b w ((w.alloc (.cells #[.pointer (some ⟨b, 0, none⟩)] 62)).alloc (.cells cs.toArray 26)) := by
  have hb := isBuilder_lt hbd
  have h1 : Below w.heap.size w ((w.alloc (.cells #[.pointer (some ⟨b, 0, none⟩)] 62)).alloc (.cells cs.toArray 26)) := ((Below.refl _ _).alloc (Nat.le_refl _) _).alloc (by simp) _
  have hk := kept_below (b := b) h1 hB
  have s1 : (w.alloc (.cells #[.pointer (some ⟨b, 0, none⟩)] 62)).heap.size = w.heap.size + 1 := World.size_alloc _ _
  refine ⟨⟨isBuilder_grow hbd h1, Nat.le_trans hB h1.size, ?_, ?_, by omega, by omega, hx.kept hk.1, ht.keep hg hk.1, hg⟩, hk⟩
  · rw [Lib.alloc_old _ _ _ (by rw [s1]; omega)]
    exact heap_alloc_new _ _
  · rw [← s1]
    exact heap_alloc_new _ _

set_option maxHeartbeats 4000000 in
set_option maxRecDepth 100000 in
theorem write_c : ∀ (x : E) (cs : List Value) (B b : Nat) (bs : List UInt8) (w : World), ExprC w (· < B) x cs → formE x = true → sizeE x ≤ 1000000000 → entE x ≤ 1000000000 → Bld B b bs w → B ≤ w.heap.size → Pows w → 1 < B → bs.length + (textE x).length ≤ 140737488355328 →
    Calls Tryd.prog 35 #[.pointer (some ⟨b, 0, none⟩), .agg cs.toArray] w (WPost B b bs (textE x) w) := by
  refine expr_ind_ ?_
  intro k nm n ls xs ih cs B b bs w hx hf hs he hbd hB ht hg hlen
  obtain ⟨hst, hk⟩ := st_start hx hbd hB ht hg
  have HST := Lib.hid hst
  have HK := Lib.hid hk
  obtain ⟨hnb, hfl⟩ := formE_mk hf
  have hs' : 1 + sizeL xs ≤ 1000000000 := by unfold sizeE at hs; exact hs
  have he' : ls.length + entL xs ≤ 1000000000 := by unfold entE at he; exact he
  have hxl : xs.length ≤ 1000000000 := by have := len_sizeL xs; omega
  have hll : ls.length ≤ 1000000000 := by omega
  unfold ExprC at hx
  obtain ⟨la, lc, aa, ac, rfl, _, _⟩ := hx
  have HIH : Hid (∀ (i : Nat) (h : i < xs.length) (cs' : List Value) (bs' : List UInt8) (w' : World), St B b w.heap.size (w.heap.size + 1) (.mk k nm n ls xs) [.int .i64 k, .string ⟨nm.toArray⟩, .int .i64 n, .slice la ls.length lc, .slice aa xs.length ac] bs' w' → bs'.length + (textE xs[i]).length ≤ 140737488355328 → ExprC w' (· < B) xs[i] cs' → Calls Tryd.prog 35 #[.pointer (some ⟨b, 0, none⟩), .agg cs'.toArray] w' (WPost B b bs' (textE xs[i]) w')) := by
    intro i h cs' bs' w' hst' hl' hec'
    exact ih _ (List.getElem_mem h) cs' B b bs' w' hec' (formL_all hfl _ (List.getElem_mem h)) (by have := sizeL_mem xs _ (List.getElem_mem h); omega) (by have := entL_mem xs _ (List.getElem_mem h); omega) hst'.bld hst'.siz hst'.pow hst'.gpow hl'
  have HTX : Hid (textE (.mk k nm n ls xs) = if k = 1 then Lib.itoa n else if k = 2 then [91] ++ sepL (ls.map Lib.itoa) ++ [93] else if k = 4 then nm else if k = 3 then nm ++ [40] ++ sepL (textL xs) ++ [41] else []) := by show _ = _; conv => lhs; unfold textE
  have HLIT := Lib.hid (nodeB_lits hnb)
  have HN := Lib.hid (nodeB_n hnb)
  have hbl := isBuilder_lt hbd
  have c0 : ((w.alloc (.cells #[.pointer (some ⟨b, 0, none⟩)] 62)).alloc (.cells #[.int .i64 k, .string ⟨nm.toArray⟩, .int .i64 n, .slice la ls.length lc, .slice aa xs.length ac] 26)).cell? ⟨w.heap.size, 0, none⟩ = some (.pointer (some ⟨b, 0, none⟩)) := cell_of_row _ _ 0 _ _ _ hst.hbb
  have d0 : ((w.alloc (.cells #[.pointer (some ⟨b, 0, none⟩)] 62)).alloc (.cells #[.int .i64 k, .string ⟨nm.toArray⟩, .int .i64 n, .slice la ls.length lc, .slice aa xs.length ac] 26)).cell? ⟨w.heap.size + 1, 0, none⟩ = some (.int .i64 k) := cell_of_row _ _ 0 _ _ _ hst.hxb
  have hlenB : bs.length ≤ 140737488355328 := by omega
  have HLEN := Lib.hid hlen
  have HLEN2 := Lib.hid (Tryd.Builder_Len_f B b _ _ hst.bld)
  have kc := nodeB_kind hnb
  clear ih hf hs he hst hk hnb hfl hs' he' hbd hlen
  go_enter Tryd.func35, Tryd.ntmps35
  go_wp2_with fail
  refine HLEN2.out.mono ?_
  rintro e w1 ⟨rfl, rfl⟩
  rw [Lib.byteCells_length]
  clear HLEN2
  generalize (w.alloc (.cells #[.pointer (some ⟨b, 0, none⟩)] 62)).alloc (.cells #[.int .i64 k, .string ⟨nm.toArray⟩, .int .i64 n, .slice la ls.length lc, .slice aa xs.length ac] 26) = W at *
  generalize hbb : w.heap.size = bb at *
  generalize hxb : bb + 1 = xb at *
  clear hbb hxb
  by_cases hov : 65536 < bs.length
  · go_wp2_with fail
    go_end0
    exact ⟨rfl, [], .inr ⟨by simpa using hov, by simp⟩, by rw [List.append_nil]; exact HST.out.bld, HK.out⟩
  · rcases kc with rfl | rfl | rfl | rfl
    · have HT1 : Hid (textE (.mk 1 nm n ls xs) = Lib.itoa n) := by show _ = _; rw [HTX.out]; rfl
      obtain ⟨hn0, hn1⟩ := HN.out rfl
      rw [HT1.out] at HLEN
      have hl := HLEN.out
      have HI : Hid (∀ w', SW2 B b bb xb (.mk 1 nm n ls xs) [.int .i64 1, .string ⟨nm.toArray⟩, .int .i64 n, .slice la ls.length lc, .slice aa xs.length ac] bs w w' → w'.cell? ⟨bb, 0, none⟩ = some (.pointer (some ⟨b, 0, none⟩)) ∧ w'.cell? ⟨xb, 2, none⟩ = some (.int .i64 n)) := by
        intro w' hS
        exact ⟨cell_of_row _ _ 0 _ _ _ hS.1.hbb, cell_of_row _ _ 2 _ _ _ hS.1.hxb⟩
      have HS0 : Hid (SW2 B b bb xb (.mk 1 nm n ls xs) [.int .i64 1, .string ⟨nm.toArray⟩, .int .i64 n, .slice la ls.length lc, .slice aa xs.length ac] bs w W) := ⟨HST.out, HK.out⟩
      clear HIH HLIT HN HTX HLEN HST HK
      go_upto_region 5 with fail
      refine wp_region_keep_tail 4 (SW2 B b bb xb (.mk 1 nm n ls xs) [.int .i64 1, .string ⟨nm.toArray⟩, .int .i64 n, .slice la ls.length lc, .slice aa xs.length ac] bs w) (by kernel_rfl) (by kernel_rfl) (HS0.out.grow (Below.refl _ _).drew) ?_
      simp only [List.take_succ_cons, List.take_zero, List.drop_succ_cons, List.drop_zero]
      repeat (first
        | (apply keep_val rfl
           · intro W hS
             obtain ⟨e0, e1⟩ := HI.out W hS
             go_simp
             try rfl
           go_simp)
        | (apply keep_call rfl
           · intro W hS
             go_simp
             exact ⟨rfl, rfl⟩
           · intro W hS
             exact (itoa_c _ W (by omega) (by omega) hS.1.pow).mono (by rintro e w' ⟨rfl, hbw⟩; exact ⟨rfl, hS.grow hbw⟩)
           go_simp))
      refine wpKeep_nil ?_
      intro w2 hS2
      go_wp2_with (go_at_call 63; refine (writeStr_c (Lib.itoa n) hS2.1.bld hS2.1.siz hl).mono ?_)
      rintro e w3 ⟨rfl, hb3, hk3⟩
      go_wp2_with fail
      go_end0
      exact ⟨rfl, _, .inl HT1.out.symm, hb3, hS2.2.trans hk3⟩
    · have HT1 : Hid (textE (.mk 2 nm n ls xs) = [91] ++ sepL (ls.map Lib.itoa) ++ [93]) := by show _ = _; rw [HTX.out]; rfl
      rw [HT1.out] at HLEN
      have hl := HLEN.out
      simp only [List.length_append, List.length_cons, List.length_nil] at hl
      have d3 : W.cell? ⟨xb, 3, none⟩ = some (.slice la ls.length lc) := cell_of_row _ _ 3 _ _ _ HST.out.hxb
      clear HIH HN HTX HLEN
      have HW1 := Lib.hid (writeByte_c 91 HST.out.bld HST.out.siz (by omega))
      go_wp2_with (go_at_call 65; refine HW1.out.mono ?_)
      rintro e w2 ⟨rfl, hb2, hk2⟩
      have hst2 := HST.out.step hk2 hb2
      have e3 : w2.cell? ⟨xb, 3, none⟩ = some (.slice la ls.length lc) := cell_of_row _ _ 3 _ _ _ hst2.hxb
      have hj := join_c 66 (ls.map Lib.itoa) hst2 (by simpa using hll) (by simp; omega) (enters_of Tryd.func66 (by kernel_rfl) rfl)
        (fun i hi bs' w' hs' hl' => by
          have hi' : i < ls.length := by simpa using hi
          have := w2_c hs' HLIT.out hll i hi' (by simpa using hl')
          simpa using this)
      rw [List.length_map] at hj
      have HJ := Lib.hid hj
      have HK2 := Lib.hid (HK.out.trans hk2)
      have HS2 := Lib.hid hst2
      clear hj hb2 hk2 hst2 HST HK HW1 c0 d0 d3
      go_wp2_with (go_at_call 62; refine HJ.out.mono ?_)
      rintro e w3 ⟨rfl, t, hwt, hb3, hk3⟩
      have hst3 := HS2.out.step hk3 hb3
      have hwl := hwt.le
      have f0 : w3.cell? ⟨bb, 0, none⟩ = some (.pointer (some ⟨b, 0, none⟩)) := cell_of_row _ _ 0 _ _ _ hst3.hbb
      have HW3 := Lib.hid (writeByte_c 93 hst3.bld hst3.siz (by simp; omega))
      have HK3 := Lib.hid (HK2.out.trans hk3)
      have HWT := Lib.hid hwt
      clear HJ hst3 hk3 hb3 hwt HS2 HK2 e3
      go_wp2_with (go_at_call 65; refine HW3.out.mono ?_)
      rintro e w4 ⟨rfl, hb4, hk4⟩
      go_wp2_with fail
      go_end0
      refine ⟨rfl, [91] ++ t ++ [93], ?_, by simpa [List.append_assoc] using hb4, HK3.out.trans hk4⟩
      rw [HT1.out]
      exact ((show Wr bs.length [91] [91] from .inl rfl).append (by simpa using HWT.out)).append (.inl rfl)
    · have HT1 : Hid (textE (.mk 3 nm n ls xs) = nm ++ [40] ++ sepL (xs.map textE) ++ [41]) := by show _ = _; rw [HTX.out, ← textL_map]; rfl
      rw [HT1.out] at HLEN
      have hl := HLEN.out
      simp only [List.length_append, List.length_cons, List.length_nil] at hl
      have d1 : W.cell? ⟨xb, 1, none⟩ = some (.string ⟨nm.toArray⟩) := cell_of_row _ _ 1 _ _ _ HST.out.hxb
      clear HLIT HN HTX HLEN
      have HW0 := Lib.hid (writeStr_c nm HST.out.bld HST.out.siz (by omega))
      go_wp2_with (go_at_call 63; refine HW0.out.mono ?_)
      rintro e w2 ⟨rfl, hb2, hk2⟩
      have hst2 := HST.out.step hk2 hb2
      have e0 : w2.cell? ⟨bb, 0, none⟩ = some (.pointer (some ⟨b, 0, none⟩)) := cell_of_row _ _ 0 _ _ _ hst2.hbb
      have HW1 := Lib.hid (writeByte_c 40 hst2.bld hst2.siz (by simp; omega))
      have HK2 := Lib.hid (HK.out.trans hk2)
      have HS2 := Lib.hid hst2
      clear hb2 hk2 hst2 HST HK HW0 c0 d0 d1
      go_wp2_with (go_at_call 65; refine HW1.out.mono ?_)
      rintro e w3 ⟨rfl, hb3, hk3⟩
      have hst3 := HS2.out.step hk3 hb3
      have e4 : w3.cell? ⟨xb, 4, none⟩ = some (.slice aa xs.length ac) := cell_of_row _ _ 4 _ _ _ hst3.hxb
      have hj := join_c 67 (xs.map textE) hst3 (by simpa using hxl) (by simp; omega) (enters_of Tryd.func67 (by kernel_rfl) rfl)
        (fun i hi bs' w' hs' hl' => by
          have hi' : i < xs.length := by simpa using hi
          have hl2 : bs'.length + (textE xs[i]).length ≤ 140737488355328 := by simpa using hl'
          have := w3_c hs' hxl i hi' (fun cs' w'' hs'' hec => HIH.out i hi' cs' bs' w'' hs'' hl2 hec)
          simpa using this)
      rw [List.length_map] at hj
      have HJ := Lib.hid hj
      have HK3 := Lib.hid (HK2.out.trans hk3)
      have HS3 := Lib.hid hst3
      clear hj hb3 hk3 hst3 HS2 HK2 HW1 HIH e0
      go_wp2_with (go_at_call 62; refine HJ.out.mono ?_)
      rintro e w4 ⟨rfl, t, hwt, hb4, hk4⟩
      have hst4 := HS3.out.step hk4 hb4
      have hwl := hwt.le
      have f0 : w4.cell? ⟨bb, 0, none⟩ = some (.pointer (some ⟨b, 0, none⟩)) := cell_of_row _ _ 0 _ _ _ hst4.hbb
      have HW4 := Lib.hid (writeByte_c 41 hst4.bld hst4.siz (by simp; omega))
      have HK4 := Lib.hid (HK3.out.trans hk4)
      have HWT := Lib.hid hwt
      clear HJ hst4 hk4 hb4 hwt HS3 HK3 e4
      go_wp2_with (go_at_call 65; refine HW4.out.mono ?_)
      rintro e w5 ⟨rfl, hb5, hk5⟩
      go_wp2_with fail
      go_end0
      refine ⟨rfl, nm ++ [40] ++ t ++ [41], ?_, by simpa [List.append_assoc] using hb5, HK4.out.trans hk5⟩
      rw [HT1.out]
      exact ((show Wr bs.length (nm ++ [40]) (nm ++ [40]) from .inl rfl).append (by simpa using HWT.out)).append (.inl rfl)
    · have HT1 : Hid (textE (.mk 4 nm n ls xs) = nm) := by show _ = _; rw [HTX.out]; rfl
      rw [HT1.out] at HLEN
      have hl := HLEN.out
      have d1 : W.cell? ⟨xb, 1, none⟩ = some (.string ⟨nm.toArray⟩) := cell_of_row _ _ 1 _ _ _ HST.out.hxb
      clear HIH HLIT HN HTX HLEN
      have HW0 := Lib.hid (writeStr_c nm HST.out.bld HST.out.siz hl)
      go_wp2_with (go_at_call 63; refine HW0.out.mono ?_)
      rintro e w2 ⟨rfl, hb2, hk2⟩
      go_wp2_with fail
      go_end0
      exact ⟨rfl, nm, .inl HT1.out.symm, hb2, HK.out.trans hk2⟩
#print axioms write_c
end Go.Proofs.YtbjagceopgofiaaDoor
