/-
  lang.Check and lang.Format, by the form, the measures and the text.
-/
import Derived.Test.YtbjagceopgofiaaDoorWrite
import Derived.Test.YtbjagceopgofiaaDoorMeas
namespace Go.Proofs.YtbjagceopgofiaaDoor
open Go.RowKit

/-- The error of an expression. -/
def checkE (x : E) : Nat := if formE x = false then 5 else if shortE x = false ∨ 32 < depthE x ∨ 1024 < sizeE x then 8 else if 65536 < (textE x).length then 8 else 0
theorem sepL_len_le : ∀ l : List (List UInt8), (sepL l).length ≤ (l.map (fun t => t.length + 2)).sum
  | [] => by simp [sepL]
  | x :: r => by
    have h : ∀ r : List (List UInt8), (r.map ([44, 32] ++ ·)).flatten.length = (r.map (fun t => t.length + 2)).sum := by
      intro r
      induction r with
      | nil => rfl
      | cons y r ih => simp only [List.map_cons, List.flatten_cons, List.length_append, List.sum_cons, ih]; simp; omega
    unfold sepL
    rw [List.length_append, h]
    simp
mutual
theorem ent_short : ∀ x : E, shortE x = true → entE x ≤ 4096 * sizeE x
  | .mk k nm n ls xs, h => by
    unfold shortE at h
    simp only [Bool.and_eq_true, decide_eq_true_eq] at h
    have := ents_short xs h.2
    unfold entE sizeE
    omega
theorem ents_short : ∀ l : List E, shortL l = true → entL l ≤ 4096 * sizeL l
  | [], _ => by simp [entL]
  | x :: r, h => by
    unfold shortL at h
    simp only [Bool.and_eq_true] at h
    have h1 := ent_short x h.1
    have h2 := ents_short r h.2
    unfold entL sizeL
    omega
end
theorem nodeB_name {k : Int} {nm : List UInt8} {n : Int} {ls : List Int} {xs : List E} (h : nodeB (.mk k nm n ls xs) = true) (hk : k = 3 ∨ k = 4) : nm.length ≤ 16 := by
  unfold nodeB at h
  rcases hk with rfl | rfl
  · simp [nameB] at h
    exact h.2.1.2.2.1
  · simp [nameB] at h
    exact h.2.1.1.2.2.1
mutual
theorem text_len : ∀ x : E, formE x = true → (textE x).length + 2 ≤ 40 * sizeE x + 23 * entE x
  | .mk k nm n ls xs, h => by
    obtain ⟨hn, hl⟩ := formE_mk h
    have h2 := texts_len xs hl
    unfold textE sizeE entE
    split
    · rename_i hk
      obtain ⟨h0, h1⟩ := nodeB_n hn hk
      have := Lib.itoa_length_le n (by omega) (by omega)
      omega
    · split
      · have h3 := sepL_len_le (ls.map Lib.itoa)
        have h4 : ∀ l : List Int, l.all litB = true → ((l.map Lib.itoa).map (fun t => t.length + 2)).sum ≤ 23 * l.length := by
          intro l
          induction l with
          | nil => simp
          | cons y r ih =>
            intro hy
            simp only [List.all_cons, Bool.and_eq_true] at hy
            have := ih hy.2
            have hy1 : 0 ≤ y ∧ y ≤ 9999999 := by simpa [litB] using hy.1
            have := Lib.itoa_length_le y (by omega) (by omega)
            simp only [List.map_cons, List.sum_cons, List.length_cons]
            omega
        have h5 := h4 ls (nodeB_lits hn)
        simp only [List.length_append, List.length_cons, List.length_nil]
        omega
      · split
        · rename_i hk
          have := nodeB_name hn (.inr hk)
          omega
        · split
          · rename_i hk
            have := nodeB_name hn (.inl hk)
            simp only [List.length_append, List.length_cons, List.length_nil]
            omega
          · simp
            omega
theorem texts_len : ∀ l : List E, formL l = true → (sepL (textL l)).length ≤ 40 * sizeL l + 23 * entL l
  | l, h => Nat.le_trans (sepL_len_le _) (texts_sum l h)
theorem texts_sum : ∀ l : List E, formL l = true → ((textL l).map (fun t => t.length + 2)).sum ≤ 40 * sizeL l + 23 * entL l
  | [], _ => by simp [textL]
  | x :: r, h => by
    unfold formL at h
    simp only [Bool.and_eq_true] at h
    have h1 := text_len x h.1
    have h2 := texts_sum r h.2
    unfold textL sizeL entL
    simp only [List.map_cons, List.sum_cons]
    omega
end
theorem cells5 {w : World} {b : Nat} {v0 v1 v2 v3 v4 : Value} {t : TypeId} {fr : Nat × Nat} (h : w.heap[b]? = some (.cells #[v0, v1, v2, v3, v4] t fr)) :
    w.cell? ⟨b, 0, none⟩ = some v0 ∧ w.cell? ⟨b, 1, none⟩ = some v1 ∧ w.cell? ⟨b, 2, none⟩ = some v2 ∧ w.cell? ⟨b, 3, none⟩ = some v3 ∧ w.cell? ⟨b, 4, none⟩ = some v4 :=
  ⟨cell_of_row _ _ 0 _ _ _ h, cell_of_row _ _ 1 _ _ _ h, cell_of_row _ _ 2 _ _ _ h, cell_of_row _ _ 3 _ _ _ h, cell_of_row _ _ 4 _ _ _ h⟩
theorem range_of_row5 {w : World} {b : Nat} {cs : List Value} {t : TypeId} {fr : Nat × Nat} (h : w.heap[b]? = some (.cells cs.toArray t fr)) : w.rangeAt b 0 cs := by
  intro j v hv
  rw [Nat.zero_add, cell_of_row _ _ j _ _ _ h, List.getElem?_toArray]
  exact hv
theorem ExprC.all {w : World} {F : Nat → Prop} {x : E} {cs : List Value} (h : ExprC w F x cs) : ExprC w (· < w.heap.size) x cs := ExprC.mono (fun _ _ hlt => ⟨hlt, rfl⟩) x cs h

set_option maxHeartbeats 4000000 in
set_option maxRecDepth 100000 in
theorem check_c (x : E) (cs : List Value) (F : Nat → Prop) (w : World) (h : ExprC w F x cs) (hs : sizeE x ≤ 1000000000) (he : entE x ≤ 9223372036854775807) (ht : Pows w) :
    Calls Tryd.prog 17 #[.agg cs.toArray] w fun e w' => e = .returned (.int .i64 (checkE x)) ∧ Below w.heap.size w w' := by
  obtain ⟨k, nm, n, la, ll, lc, aa, al, ac, rfl⟩ := h.shape
  have HX := Lib.hid h.all
  have HT := Lib.hid ht
  have hg := ht.lt
  clear h ht
  have hb0 : Below w.heap.size w (w.alloc (.cells #[.int .i64 k, .string nm, .int .i64 n, .slice la ll lc, .slice aa al ac] 26)) := (Below.refl _ _).alloc (Nat.le_refl _) _
  have hr0 : (w.alloc (.cells #[.int .i64 k, .string nm, .int .i64 n, .slice la ll lc, .slice aa al ac] 26)).heap[w.heap.size]? = some (.cells [.int .i64 k, .string nm, .int .i64 n, .slice la ll lc, .slice aa al ac].toArray 26 (0, 0)) := heap_alloc_new _ _
  have HR0 := Lib.hid hr0
  have HB0 := Lib.hid hb0
  clear hr0 hb0
  go_enter Tryd.func17, Tryd.ntmps17
  go_wp2_with fail
  generalize w.alloc (.cells #[.int .i64 k, .string nm, .int .i64 n, .slice la ll lc, .slice aa al ac] 26) = W at *
  refine (form_c x _ _ W (HX.out.kept HB0.out) hs he).mono ?_
  rintro e w1 ⟨rfl, hb1⟩
  have hxw : w.heap.size < W.heap.size := (Array.getElem?_eq_some_iff.1 HR0.out).1
  have HR1 := Lib.hid ((hb1.block _ hxw).trans HR0.out)
  have HB1 := Lib.hid (HB0.out.trans (hb1.mono HB0.out.size))
  have hxw1 : w.heap.size < w1.heap.size := Nat.lt_of_lt_of_le hxw hb1.size
  clear hb1 HR0 HB0 hxw
  clear W
  cases hf : formE x
  · go_wp2_with fail
    go_ret
    exact ⟨ret_int (by unfold checkE; rw [if_pos hf]; rfl), HB1.out⟩
  · have HF : Hid (checkE x = if shortE x = false ∨ 32 < depthE x ∨ 1024 < sizeE x then 8 else if 65536 < (textE x).length then 8 else 0) := by show _ = _; unfold checkE; rw [hf]; rfl
    have hdp : depthE x ≤ 1000000000 := by have := depth_size x; omega
    go_wp2_with (refine wpList_load_mid rfl 26 (.tmp 1) rfl w.heap.size 0 rfl [.int .i64 k, .string nm, .int .i64 n, .slice la ll lc, .slice aa al ac] _ (range_of_row5 HR1.out) Tryd.underlying26 rfl exprSize ?_)
    refine (measure_c x _ _ w1 (HX.out.kept HB1.out) hs he).mono ?_
    rintro e w2 ⟨rfl, hb2⟩
    have HR2 := Lib.hid ((hb2.block _ hxw1).trans HR1.out)
    have HB2 := Lib.hid (HB1.out.trans (hb2.mono HB1.out.size))
    have hxw2 : w.heap.size < w2.heap.size := Nat.lt_of_lt_of_le hxw1 hb2.size
    clear hb2 HR1 HB1 hxw1
    clear w1
    cases hsh : shortE x
    · go_wp2_with fail
      go_ret
      exact ⟨ret_int (by rw [HF.out, if_pos (.inl hsh)]; rfl), HB2.out⟩
    · by_cases hdd : 32 < depthE x
      · go_wp2_with fail
        go_ret
        exact ⟨ret_int (by rw [HF.out, if_pos (.inr (.inl hdd))]; rfl), HB2.out⟩
      · obtain ⟨z0, z1, z2, z3, z4⟩ := cells5 HR2.out
        go_wp2_with fail
        refine (size_c x _ _ w2 (HX.out.kept HB2.out) hs).mono ?_
        rintro e w3 ⟨rfl, hb3⟩
        have HR3 := Lib.hid ((hb3.block _ hxw2).trans HR2.out)
        have HB3 := Lib.hid (HB2.out.trans (hb3.mono HB2.out.size))
        have hxw3 : w.heap.size < w3.heap.size := Nat.lt_of_lt_of_le hxw2 hb3.size
        clear hb3 HR2 HB2 hxw2 z0 z1 z2 z3 z4
        clear w2
        by_cases hsz : 1024 < sizeE x
        · go_wp2_with fail
          go_ret
          exact ⟨ret_int (by rw [HF.out, if_pos (.inr (.inr hsz))]; rfl), HB3.out⟩
        · have HF2 : Hid (checkE x = if 65536 < (textE x).length then 8 else 0) := by
            show _ = _
            rw [HF.out, if_neg]
            rintro (h | h | h)
            · rw [hsh] at h; cases h
            · exact hdd h
            · exact hsz h
          have he2 := ent_short x hsh
          have htl := text_len x hf
          have hbn : Below w3.heap.size w3 (w3.alloc (.cells #[.pointer none, .slice none 0 0] 65)) := (Below.refl _ _).alloc (Nat.le_refl _) _
          obtain ⟨z0, z1, z2, z3, z4⟩ := cells5 ((hbn.block _ hxw3).trans HR3.out)
          have HBN := Lib.hid (HB3.out.trans (hbn.mono HB3.out.size))
          have HFR := Lib.hid (isBuilder_fresh 65 5 w3)
          have hsw : w3.heap.size ≤ (w3.alloc (.cells #[.pointer none, .slice none 0 0] 65)).heap.size := hbn.size
          have HSW := Lib.hid hsw
          clear HF hbn hsw
          go_wp2_with fail
          generalize w3.alloc (.cells #[.pointer none, .slice none 0 0] 65) = w4 at *
          have hB3 := HB3.out.size
          refine (write_c x _ w3.heap.size w3.heap.size [] w4 (ExprC.mono (fun b hF _ => ⟨Nat.lt_of_lt_of_le hF hB3, HBN.out.block b hF⟩) _ _ HX.out) hf hs (by omega) HFR.out HSW.out (HT.out.keep hg HBN.out) (Nat.lt_of_lt_of_le hg hB3) (by simp; omega)).mono ?_
          rintro e w5 ⟨rfl, t, hwt, hb5, hk5⟩
          have HB5 := Lib.hid (HBN.out.trans (hk5.1.mono hB3))
          rw [List.nil_append] at hb5
          have HL := Lib.hid (Tryd.Builder_Len_f _ _ _ _ hb5)
          have hwl := hwt.le
          have HWT := Lib.hid hwt
          clear hk5 hb5 hwt HFR z0 z1 z2 z3 z4
          go_wp2_with (go_at_call 36; refine HL.out.mono ?_)
          rintro e w6 ⟨rfl, rfl⟩
          rw [Lib.byteCells_length]
          by_cases hov : 65536 < t.length
          · go_wp2_with fail
            go_ret
            exact ⟨ret_int (by rw [HF2.out, if_pos (by omega)]; rfl), HB5.out⟩
          · go_wp2_with fail
            go_ret
            refine ⟨ret_int ?_, HB5.out⟩
            rcases HWT.out with rfl | ⟨h1, _⟩
            · rw [HF2.out, if_neg (by omega)]; rfl
            · exact absurd (by simpa using h1) hov
#print axioms check_c
end Go.Proofs.YtbjagceopgofiaaDoor
