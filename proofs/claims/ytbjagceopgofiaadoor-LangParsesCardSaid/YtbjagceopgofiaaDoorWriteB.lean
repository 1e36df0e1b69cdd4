/-
  lang.write: the closures that write the entries of a list and the arguments of a call, and their join.
-/
import Derived.Test.YtbjagceopgofiaaDoorWriteA
namespace Go.Proofs.YtbjagceopgofiaaDoor
open Go.RowKit

theorem byte_map (l : List UInt8) : (⟨l.toArray⟩ : ByteArray).data.toList = l := rfl
theorem all_lit {ls : List Int} (h : ls.all litB = true) (i : Nat) (hi : i < ls.length) : 0 ≤ ls[i] ∧ ls[i] ≤ 9999999 := by
  have := List.all_eq_true.1 h _ (List.getElem_mem hi)
  simpa [litB] using this
/-- What the drawn region of write$2 keeps. -/
def SW2 (B b bb xb : Nat) (x : E) (cs : List Value) (bs : List UInt8) (w w' : World) : Prop := St B b bb xb x cs bs w' ∧ Kept B b w w'
theorem SW2.grow {B b bb xb : Nat} {x : E} {cs : List Value} {bs : List UInt8} {w w' w'' : World} (h : SW2 B b bb xb x cs bs w w') (hb : Below w'.heap.size w' w'') : SW2 B b bb xb x cs bs w w'' := by
  have hk : Kept B b w' w'' := kept_below hb h.1.siz
  exact ⟨h.1.step hk (isBuilder_grow h.1.bld hb), h.2.trans hk⟩

set_option maxHeartbeats 4000000 in
set_option maxRecDepth 100000 in
theorem w2_c {B b bb xb : Nat} {k : Int} {nm : List UInt8} {n : Int} {ls : List Int} {xs : List E} {cs : List Value} {bs : List UInt8} {w : World} (h : St B b bb xb (.mk k nm n ls xs) cs bs w) (hl : ls.all litB = true) (hn : ls.length ≤ 1000000000)
    (i : Nat) (hi : i < ls.length) (hlen : bs.length + (Lib.itoa ls[i]).length ≤ 140737488355328) :
    Calls Tryd.prog 66 #[.int .i64 i, .pointer (some ⟨bb, 0, none⟩), .pointer (some ⟨xb, 0, none⟩)] w (WPost B b bs (Lib.itoa ls[i]) w) := by
  have hx := h.exp
  unfold ExprC at hx
  obtain ⟨la, lc, aa, ac, rfl, hli, _⟩ := hx
  obtain ⟨lb, lo, rfl, hlB, hlc⟩ := hli (by omega)
  have HLC := Lib.hid hlc
  obtain ⟨hv0, hv1⟩ := all_lit hl i hi
  have hgd : ls.getD i 0 = ls[i] := by rw [List.getD_eq_getElem?_getD, List.getElem?_eq_getElem hi]; rfl
  have HGD := Lib.hid hgd
  have hi0 : (0 : Int) ≤ (i : Int) := by omega
  have hi1 : (i : Int) < (ls.length : Int) := by omega
  clear hgd hlc hli hl
  generalize hz : ls[i] = z at *
  have HS0 : Hid (SW2 B b bb xb (.mk k nm n ls xs) [.int .i64 k, .string ⟨nm.toArray⟩, .int .i64 n, .slice (some ⟨lb, lo, none⟩) ls.length lc, .slice aa xs.length ac] bs w w) := ⟨h, Kept.refl _ _ _⟩
  have HI : Hid (∀ w', SW2 B b bb xb (.mk k nm n ls xs) [.int .i64 k, .string ⟨nm.toArray⟩, .int .i64 n, .slice (some ⟨lb, lo, none⟩) ls.length lc, .slice aa xs.length ac] bs w w' → w'.cell? ⟨bb, 0, none⟩ = some (.pointer (some ⟨b, 0, none⟩)) ∧ w'.cell? ⟨xb, 3, none⟩ = some (.slice (some ⟨lb, lo, none⟩) ls.length lc) ∧ w'.cell? ⟨lb, lo + i, none⟩ = some (.int .i64 z)) := by
    intro w' hS
    refine ⟨cell_of_row _ _ 0 _ _ _ hS.1.hbb, cell_of_row _ _ 3 _ _ _ hS.1.hxb, ?_⟩
    rw [hS.2.1.cell (p := ⟨lb, lo + i, none⟩) hlB, HLC.out i hi, HGD.out]
  clear HLC HGD h
  go_enter Tryd.func66, Tryd.ntmps66
  go_upto_region 0 with fail
  refine wp_region_keep_tail 7 (SW2 B b bb xb (.mk k nm n ls xs) [.int .i64 k, .string ⟨nm.toArray⟩, .int .i64 n, .slice (some ⟨lb, lo, none⟩) ls.length lc, .slice aa xs.length ac] bs w) (by kernel_rfl) (by kernel_rfl) (HS0.out.grow (Below.refl _ _).drew) ?_
  simp only [List.take_succ_cons, List.take_zero, List.drop_succ_cons, List.drop_zero]
  repeat (first
    | (apply keep_val rfl
       · intro W hS
         obtain ⟨e0, e1, e2⟩ := HI.out W hS
         go_simp
         try rfl
       go_simp)
    | (apply keep_call rfl
       · intro W hS
         go_simp
         exact ⟨rfl, rfl⟩
       · intro W hS
         exact (itoa_c _ W (by omega) (by omega) hS.1.pow).mono (by rintro e w' ⟨rfl, hbw⟩; exact ⟨rfl, hS.grow hbw⟩)
       go_simp))
  refine wpKeep_nil ?_
  intro w2 hS2
  go_wp2_with (go_at_call 63; refine (writeStr_c (Lib.itoa z) hS2.1.bld hS2.1.siz hlen).mono ?_)
  rintro e w3 ⟨rfl, hb3, hk3⟩
  go_wp2_with fail
  go_end0
  exact ⟨rfl, _, .inl rfl, hb3, hS2.2.trans hk3⟩

section
variable {P : Program} {ops : Array Oper} {S : World → Prop}
theorem keep_load_mid {Q : Act → Prop} {a : Act} {op : Oper} {rest : List Oper} (hg : op.guard = none) (ty : TypeId) (x : Operand) (ho : op.op = .load ty x)
    (b o : Nat) (hx : a.eval x = .pointer (some ⟨b, o, none⟩)) (cs : List Value) (d : TypeDesc) (hS : ∀ w, S w → w.rangeAt b o cs)
    (hu : P.underlying ty = some d) (hd : d.isRow = true) (hi : (P.info? ty).map (·.size) = some cs.length)
    (h : wpKeep P ops S Q rest (a.put op.dst (.agg cs.toArray))) : wpKeep P ops S Q (op :: rest) a :=
  keep_val hg (fun w hw => by
    unfold execOp
    simp only [ho, hx, Instr.loadAt, Instr.sureAddr, Sem.run_bind, Sem.run_pure, Result.andThen_ok, run_loadVar_mid w b o ty cs d (hS w hw) hu hd hi]) h
end
theorem rangeAt_kept {w w' : World} {B b o : Nat} {cs : List Value} (h : w.rangeAt b o cs) (hb : Below B w w') (hlt : b < B) : w'.rangeAt b o cs :=
  fun j v hv => (hb.cell (p := ⟨b, o + j, none⟩) hlt).trans (h j v hv)

set_option maxHeartbeats 4000000 in
set_option maxRecDepth 100000 in
theorem w3_c {B b bb xb : Nat} {k : Int} {nm : List UInt8} {n : Int} {ls : List Int} {xs : List E} {cs : List Value} {bs : List UInt8} {w : World} (h : St B b bb xb (.mk k nm n ls xs) cs bs w) (hn : xs.length ≤ 1000000000)
    (i : Nat) (hi : i < xs.length)
    (hC : ∀ cs' w', St B b bb xb (.mk k nm n ls xs) cs bs w' → ExprC w' (· < B) xs[i] cs' → Calls Tryd.prog 35 #[.pointer (some ⟨b, 0, none⟩), .agg cs'.toArray] w' (WPost B b bs (textE xs[i]) w')) :
    Calls Tryd.prog 67 #[.int .i64 i, .pointer (some ⟨bb, 0, none⟩), .pointer (some ⟨xb, 0, none⟩)] w (WPost B b bs (textE xs[i]) w) := by
  have hx := h.exp
  unfold ExprC at hx
  obtain ⟨la, lc, aa, ac, rfl, _, ha⟩ := hx
  obtain ⟨ab, ao, rfl, haB, hax⟩ := ha (by omega)
  obtain ⟨cs', hr, hec⟩ := ExprsC.at_ xs ao i xs[i] hax (List.getElem?_eq_getElem hi)
  obtain ⟨k', nm', n', la', ll', lc', ab', al', ac', rfl⟩ := hec.shape
  have hi0 : (0 : Int) ≤ (i : Int) := by omega
  have hi1 : (i : Int) < (xs.length : Int) := by omega
  have HEC := Lib.hid hec
  have HC := Lib.hid hC
  clear hC hec ha hax
  generalize xs[i] = X at *
  have HS0 : Hid (SW2 B b bb xb (.mk k nm n ls xs) [.int .i64 k, .string ⟨nm.toArray⟩, .int .i64 n, .slice la ls.length lc, .slice (some ⟨ab, ao, none⟩) xs.length ac] bs w w) := ⟨h, Kept.refl _ _ _⟩
  have HI : Hid (∀ w', SW2 B b bb xb (.mk k nm n ls xs) [.int .i64 k, .string ⟨nm.toArray⟩, .int .i64 n, .slice la ls.length lc, .slice (some ⟨ab, ao, none⟩) xs.length ac] bs w w' → w'.cell? ⟨bb, 0, none⟩ = some (.pointer (some ⟨b, 0, none⟩)) ∧ w'.cell? ⟨xb, 4, none⟩ = some (.slice (some ⟨ab, ao, none⟩) xs.length ac)) := by
    intro w' hS
    exact ⟨cell_of_row _ _ 0 _ _ _ hS.1.hbb, cell_of_row _ _ 4 _ _ _ hS.1.hxb⟩
  have HR := Lib.hid hr
  clear h hr
  go_enter Tryd.func67, Tryd.ntmps67
  go_upto_region 0 with fail
  refine wp_region_keep_tail 6 (SW2 B b bb xb (.mk k nm n ls xs) [.int .i64 k, .string ⟨nm.toArray⟩, .int .i64 n, .slice la ls.length lc, .slice (some ⟨ab, ao, none⟩) xs.length ac] bs w) (by kernel_rfl) (by kernel_rfl) (HS0.out.grow (Below.refl _ _).drew) ?_
  simp only [List.take_succ_cons, List.take_zero, List.drop_succ_cons, List.drop_zero]
  repeat (first
    | (refine keep_load_mid rfl 26 (.tmp 8) rfl ab (ao + i * 5) rfl [.int .i64 k', .string nm', .int .i64 n', .slice la' ll' lc', .slice ab' al' ac'] _ (fun w' hS => rangeAt_kept HR.out hS.2.1 haB) Tryd.underlying26 rfl exprSize ?_
       go_simp)
    | (apply keep_val rfl
       · intro W hS
         obtain ⟨e0, e1⟩ := HI.out W hS
         go_simp
         try rfl
       go_simp))
  refine wpKeep_nil ?_
  intro w2 hS2
  go_wp2_with (go_at_call 35; refine (HC.out _ w2 hS2.1 (HEC.out.kept hS2.2.1)).mono ?_)
  rintro e w3 ⟨rfl, t, ht, hb3, hk3⟩
  go_wp2_with fail
  go_end0
  exact ⟨rfl, t, ht, hb3, hS2.2.trans hk3⟩

/-- The join's round: so many texts are written. -/
def RelJ (B b bb xb : Nat) (x : E) (cs : List Value) (bs : List UInt8) (w : World) (texts : List (List UInt8)) (v : Value) (g : Nat) (wr : World) : Prop :=
  ∃ i t, i + g = texts.length ∧ v = .int .i64 i ∧ Wr bs.length t (sepL (texts.take i)) ∧ St B b bb xb x cs (bs ++ t) wr ∧ Kept B b w wr
theorem sepL_len_take (l : List (List UInt8)) (i : Nat) : (sepL (l.take i)).length ≤ (sepL l).length := by
  cases l with
  | nil => simp
  | cons x r =>
    cases i with
    | zero => simp [sepL]
    | succ i =>
      rw [List.take_succ_cons]
      unfold sepL
      have h2 : ((r.take i).map ([44, 32] ++ ·)).flatten.length ≤ (r.map ([44, 32] ++ ·)).flatten.length := by
        have h3 : (r.map ([44, 32] ++ ·)).flatten = ((r.take i).map ([44, 32] ++ ·)).flatten ++ ((r.drop i).map ([44, 32] ++ ·)).flatten := by
          rw [← List.flatten_append, ← List.map_append, List.take_append_drop]
        rw [h3, List.length_append]
        omega
      rw [List.length_append, List.length_append]
      omega

set_option maxHeartbeats 4000000 in
set_option maxRecDepth 100000 in
theorem join_c {B b bb xb : Nat} {x : E} {cs : List Value} {bs : List UInt8} {w : World} (f : FuncId) (texts : List (List UInt8)) (h : St B b bb xb x cs bs w) (hn : texts.length ≤ 1000000000) (hlen : bs.length + (sepL texts).length ≤ 140737488355328)
    (hf : ∀ args w, (callFunc f args).run Tryd.prog w = .ok (.enter f args) w)
    (hC : ∀ (i : Nat) (hi : i < texts.length) (bs' : List UInt8) (w' : World), St B b bb xb x cs bs' w' → bs'.length + texts[i].length ≤ 140737488355328 → Calls Tryd.prog f #[.int .i64 i, .pointer (some ⟨bb, 0, none⟩), .pointer (some ⟨xb, 0, none⟩)] w' (WPost B b bs' texts[i] w')) :
    Calls Tryd.prog 62 #[.int .i64 texts.length, .func (.func f) #[] #[.pointer (some ⟨bb, 0, none⟩), .pointer (some ⟨xb, 0, none⟩)], .pointer (some ⟨bb, 0, none⟩)] w (WPost B b bs (sepL texts) w) := by
  have HC := Lib.hid hC
  have HS := Lib.hid h
  clear hC h
  go_enter Tryd.func62, Tryd.ntmps62
  go_wp2_with fail
  go_loopg [7] texts.length (fun g v wr => RelJ B b bb xb x cs bs w texts v g wr)
  case atStart => exact ⟨0, [], by omega, rfl, .inl (by simp [sepL]), by rw [List.append_nil]; exact HS.out, Kept.refl _ _ _⟩
  case round =>
    obtain ⟨i, t, hig, rfl, hwr, hst, hk⟩ := hrel
    have HST := Lib.hid hst
    have HK := Lib.hid hk
    have HW := Lib.hid hwr
    clear hst hk hwr HS
    by_cases hi : i < texts.length
    · have htk : texts.take (i + 1) = texts.take i ++ [texts[i]] := take_snoc (List.getElem?_eq_getElem hi)
      have hl1 := sepL_len_take texts (i + 1)
      have hl2 := HW.out.le
      have hsn := sepL_snoc (texts.take i) texts[i]
      rw [← htk] at hsn
      have hC1 := HC.out i hi
      clear HC htk
      have hi0 : (0 : Int) ≤ (i : Int) := by omega
      have hi1 : (i : Int) < (texts.length : Int) := by omega
      by_cases hz : i = 0
      · subst hz
        rw [if_pos (by simp)] at hsn
        have hl3 := congrArg List.length hsn
        rw [List.length_append] at hl3
        have HSN := Lib.hid hsn
        have HCC := Lib.hid (hC1 (bs ++ t) wr HST.out (by rw [List.length_append]; omega))
        clear hsn hC1
        generalize texts[0] = tx at *
        go_wp2_with (go_at_fn f; refine HCC.out.mono ?_)
        rintro e w5 ⟨rfl, t5, h5, hb5, hk5⟩
        go_wp2_with fail
        go_roundg (texts.length - (0 + 1))
        case measure => omega
        case rel => exact ⟨0 + 1, t ++ t5, by omega, by simp, by rw [HSN.out]; rw [List.length_append] at h5; exact HW.out.append h5, by rw [← List.append_assoc]; exact HST.out.step hk5 hb5, HK.out.trans hk5⟩
      · have hne : ¬ texts.take i = [] := by
          intro h
          rcases List.take_eq_nil_iff.1 h with h | h
          · exact hz h
          · rw [h] at hi
            simp at hi
        rw [if_neg hne] at hsn
        clear hne
        have hl3 := congrArg List.length hsn
        rw [List.length_append, List.length_append] at hl3
        simp only [List.length_cons, List.length_nil] at hl3
        have HSN := Lib.hid hsn
        have hbc : wr.cell? ⟨bb, 0, none⟩ = some (.pointer (some ⟨b, 0, none⟩)) := cell_of_row _ _ 0 _ _ _ HST.out.hbb
        have HCC := Lib.hid hC1
        clear hsn hC1
        generalize texts[i] = tx at *
        have HWS := Lib.hid (writeStr_c [44, 32] HST.out.bld HST.out.siz (by rw [List.length_append]; simp; omega))
        go_wp2_with (go_at_call 63; refine HWS.out.mono ?_)
        rintro e w4 ⟨rfl, hb4, hk4⟩
        have hst4 := HST.out.step hk4 hb4
        have hcc := HCC.out _ w4 hst4 (by simp; omega)
        have HC4 := Lib.hid hcc
        have HS4 := Lib.hid hst4
        have HK4 := Lib.hid hk4
        clear hb4 hk4 hst4 hcc HCC HST hbc
        go_wp2_with (go_at_fn f; refine HC4.out.mono ?_)
        rintro e w5 ⟨rfl, t5, h5, hb5, hk5⟩
        go_wp2_with fail
        go_roundg (texts.length - (i + 1))
        case measure => omega
        case rel =>
          refine ⟨i + 1, t ++ ([44, 32] ++ t5), by omega, by simp, ?_, ?_, (HK.out.trans HK4.out).trans hk5⟩
          · rw [HSN.out]
            refine HW.out.append (Wr.append (.inl rfl) ?_)
            simpa [Nat.add_assoc] using h5
          · have := HS4.out.step hk5 hb5
            simpa [List.append_assoc] using this
    · go_wp2_with fail
      go_end0
      refine ⟨rfl, t, ?_, HST.out.bld, HK.out⟩
      have := HW.out
      rwa [List.take_of_length_le (by omega)] at this
#print axioms join_c
end Go.Proofs.YtbjagceopgofiaaDoor
