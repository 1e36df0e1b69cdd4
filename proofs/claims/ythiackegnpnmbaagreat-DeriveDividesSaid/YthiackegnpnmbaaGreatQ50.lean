/-
  The law's three: a right and a wrong claim about the code of 000 and 111.
-/
import Derived.Test.YthiackegnpnmbaaGreatQ49
namespace Go.Proofs.YthiackegnpnmbaaGreat
open Go.RowKit Pln

section
variable {P : Program} {ops : Array Oper} {rest : List Oper} {op : Oper} {a : Act} {w : World} {Q : Exit → Act → World → Prop}
/-- The load of a struct in the midst of a block, under a guard that is met. -/
theorem wpList_gload_mid (hw : Region.wanted op (yielded ops a.tmps) = true) (ty : TypeId) (x : Operand) (ho : op.op = .load ty x)
    (b o : Nat) (hx : a.eval x = .pointer (some ⟨b, o, none⟩)) (cs : List Value) (d : TypeDesc) (hc : w.rangeAt b o cs)
    (hu : P.underlying ty = some d) (hd : d.isRow = true) (hi : (P.info? ty).map (·.size) = some cs.length)
    (h : wpList P ops Q rest (a.put op.dst (.agg cs.toArray)) w) : wpList P ops Q (op :: rest) a w :=
  wpList_step fun K hK => by
    rw [if_pos hw]
    exact wp_load_mid ty x ho b o hx cs d hc hu hd hi (hK _ _ h)
end
theorem rows_111 {G : Nat} {w : World} (h : RowsAt w w.heap.size (some ⟨G, 0, none⟩) [[1, 1, 1]]) : ∃ R ro cr, w.cell? ⟨G, 0, none⟩ = some (.slice (some ⟨R, ro, none⟩) 3 cr) ∧ ∀ j, j < 3 → w.cell? ⟨R, ro + j, none⟩ = some (.int .i64 1) := by
  obtain ⟨b, o, he, _, hi⟩ := h (by simp)
  injection he with he
  injection he with e1 e2
  subst e1
  subst e2
  obtain ⟨Ai, ci, h1, h2⟩ := hi 0 (by simp)
  obtain ⟨R, ro, rfl, _, hj⟩ := h2 (by simp)
  refine ⟨R, ro, ci, h1, fun j hj3 => ?_⟩
  have := hj j hj3
  rw [this]
  match j, hj3 with
  | 0, _ => rfl
  | 1, _ => rfl
  | 2, _ => rfl
theorem check_1 (G b : Nat) (w : World) (hrg : w.rangeAt b 0 (repC 1 3 G)) (hbl : b < w.heap.size) (hG : RowsAt w w.heap.size (some ⟨G, 0, none⟩) [[1, 1, 1]]) :
    Calls Tryz.prog 6 #[.slice (some ⟨b, 0, none⟩) 1 1, .int .i64 0] w (ChkPost true w) :=
  checkstep_rep 1 3 premises_1 (by omega) (by omega) (by omega) (by omega) form_rep1 G b 0 1 0 w (by omega) (by omega) hrg hbl hG true fun W hW => itself_1 G W ((hG.keep hW).more hW.size)
theorem check_15 (G b : Nat) (w : World) (hrg : w.rangeAt b 23 (repC 15 4 G)) (hbl : b < w.heap.size) (hG : RowsAt w w.heap.size (some ⟨G, 0, none⟩) [[1, 1, 1]]) :
    Calls Tryz.prog 6 #[.slice (some ⟨b, 0, none⟩) 2 2, .int .i64 1] w (ChkPost false w) :=
  checkstep_rep 15 4 premises_15 (by omega) (by omega) (by omega) (by omega) form_rep15 G b 0 2 1 w (by omega) (by omega) hrg hbl hG false fun W hW => by
    obtain ⟨R, ro, cr, h1, h2⟩ := rows_111 ((hG.keep hW).more hW.size)
    exact itself_15 G R ro cr W h1 h2
set_option maxHeartbeats 4000000 in
set_option maxRecDepth 100000 in
theorem three_c : ThreeOk := fun w => by
  go_enter Tryz.func10, Tryz.ntmps10
  go_wp2_with fail
  refine (repeated_c w).mono ?_
  rintro e w1 ⟨G, rfl, hG, hb⟩
  go_upto_region 2 with (refine wpList_store_new rfl 38 (.tmp 1) (.tmp 4) rfl w1 _ #[.int .i64 1, .int .i64 2, .int .i64 1, .slice none 0 0, .int .i64 3, .slice (some ⟨G, 0, none⟩) 1 1, .int .i64 3, .slice none 0 0, .slice none 0 0, .int .i64 0, .int .i64 0, .slice none 0 0, .int .i64 0, .int .i64 0, .int .i64 0, .int .i64 0, .int .i64 0, .slice none 0 0, .slice none 0 0, .slice none 0 0, .slice none 0 0, .int .i64 0, .slice none 0 0] rfl rfl stepSize rfl (by simp [Value.oneCell']) ?_)
  have hba : Below w1.heap.size w1 (w1.alloc (.cells #[.int .i64 1, .int .i64 2, .int .i64 1, .slice none 0 0, .int .i64 3, .slice (some ⟨G, 0, none⟩) 1 1, .int .i64 3, .slice none 0 0, .slice none 0 0, .int .i64 0, .int .i64 0, .slice none 0 0, .int .i64 0, .int .i64 0, .int .i64 0, .int .i64 0, .int .i64 0, .slice none 0 0, .slice none 0 0, .slice none 0 0, .slice none 0 0, .int .i64 0, .slice none 0 0] 38)) := (Below.refl _ _).alloc (Nat.le_refl _) _
  have HK1 : Hid ((w1.alloc (.cells #[.int .i64 1, .int .i64 2, .int .i64 1, .slice none 0 0, .int .i64 3, .slice (some ⟨G, 0, none⟩) 1 1, .int .i64 3, .slice none 0 0, .slice none 0 0, .int .i64 0, .int .i64 0, .slice none 0 0, .int .i64 0, .int .i64 0, .int .i64 0, .int .i64 0, .int .i64 0, .slice none 0 0, .slice none 0 0, .slice none 0 0, .slice none 0 0, .int .i64 0, .slice none 0 0] 38)).heap[w1.heap.size]? = some (.cells #[.int .i64 1, .int .i64 2, .int .i64 1, .slice none 0 0, .int .i64 3, .slice (some ⟨G, 0, none⟩) 1 1, .int .i64 3, .slice none 0 0, .slice none 0 0, .int .i64 0, .int .i64 0, .slice none 0 0, .int .i64 0, .int .i64 0, .int .i64 0, .int .i64 0, .int .i64 0, .slice none 0 0, .slice none 0 0, .slice none 0 0, .slice none 0 0, .int .i64 0, .slice none 0 0] 38 (0, 0))) := heap_alloc_new _ _
  have HG1 := Lib.hid ((hG.keep hba).more hba.size)
  have HB1 := Lib.hid (hb.trans (hba.mono hb.size))
  have hl1 : w1.heap.size < (w1.alloc (.cells #[.int .i64 1, .int .i64 2, .int .i64 1, .slice none 0 0, .int .i64 3, .slice (some ⟨G, 0, none⟩) 1 1, .int .i64 3, .slice none 0 0, .slice none 0 0, .int .i64 0, .int .i64 0, .slice none 0 0, .int .i64 0, .int .i64 0, .int .i64 0, .int .i64 0, .int .i64 0, .slice none 0 0, .slice none 0 0, .slice none 0 0, .slice none 0 0, .int .i64 0, .slice none 0 0] 38)).heap.size := by simp
  clear hba hG hb
  generalize w1.alloc (.cells #[.int .i64 1, .int .i64 2, .int .i64 1, .slice none 0 0, .int .i64 3, .slice (some ⟨G, 0, none⟩) 1 1, .int .i64 3, .slice none 0 0, .slice none 0 0, .int .i64 0, .int .i64 0, .slice none 0 0, .int .i64 0, .int .i64 0, .int .i64 0, .int .i64 0, .int .i64 0, .slice none 0 0, .slice none 0 0, .slice none 0 0, .slice none 0 0, .int .i64 0, .slice none 0 0] 38) = W1 at *
  generalize w1.heap.size = b1 at *
  clear w1
  go_wp2_with fail
  refine (repeated_c W1).mono ?_
  rintro e w2 ⟨G2, rfl, hG2, hb2⟩
  go_upto_region 3 with (refine wpList_store_new rfl 38 (.tmp 2) (.tmp 6) rfl w2 _ #[.int .i64 15, .int .i64 2, .int .i64 1, .slice none 0 0, .int .i64 3, .slice (some ⟨G2, 0, none⟩) 1 1, .int .i64 4, .slice none 0 0, .slice none 0 0, .int .i64 0, .int .i64 0, .slice none 0 0, .int .i64 0, .int .i64 0, .int .i64 0, .int .i64 0, .int .i64 0, .slice none 0 0, .slice none 0 0, .slice none 0 0, .slice none 0 0, .int .i64 0, .slice none 0 0] rfl rfl stepSize rfl (by simp [Value.oneCell']) ?_)
  have hba : Below w2.heap.size w2 (w2.alloc (.cells #[.int .i64 15, .int .i64 2, .int .i64 1, .slice none 0 0, .int .i64 3, .slice (some ⟨G2, 0, none⟩) 1 1, .int .i64 4, .slice none 0 0, .slice none 0 0, .int .i64 0, .int .i64 0, .slice none 0 0, .int .i64 0, .int .i64 0, .int .i64 0, .int .i64 0, .int .i64 0, .slice none 0 0, .slice none 0 0, .slice none 0 0, .slice none 0 0, .int .i64 0, .slice none 0 0] 38)) := (Below.refl _ _).alloc (Nat.le_refl _) _
  have hbb : Below W1.heap.size W1 (w2.alloc (.cells #[.int .i64 15, .int .i64 2, .int .i64 1, .slice none 0 0, .int .i64 3, .slice (some ⟨G2, 0, none⟩) 1 1, .int .i64 4, .slice none 0 0, .slice none 0 0, .int .i64 0, .int .i64 0, .slice none 0 0, .int .i64 0, .int .i64 0, .int .i64 0, .int .i64 0, .int .i64 0, .slice none 0 0, .slice none 0 0, .slice none 0 0, .slice none 0 0, .int .i64 0, .slice none 0 0] 38)) := hb2.trans (hba.mono hb2.size)
  have HK2 : Hid ((w2.alloc (.cells #[.int .i64 15, .int .i64 2, .int .i64 1, .slice none 0 0, .int .i64 3, .slice (some ⟨G2, 0, none⟩) 1 1, .int .i64 4, .slice none 0 0, .slice none 0 0, .int .i64 0, .int .i64 0, .slice none 0 0, .int .i64 0, .int .i64 0, .int .i64 0, .int .i64 0, .int .i64 0, .slice none 0 0, .slice none 0 0, .slice none 0 0, .slice none 0 0, .int .i64 0, .slice none 0 0] 38)).heap[w2.heap.size]? = some (.cells #[.int .i64 15, .int .i64 2, .int .i64 1, .slice none 0 0, .int .i64 3, .slice (some ⟨G2, 0, none⟩) 1 1, .int .i64 4, .slice none 0 0, .slice none 0 0, .int .i64 0, .int .i64 0, .slice none 0 0, .int .i64 0, .int .i64 0, .int .i64 0, .int .i64 0, .int .i64 0, .slice none 0 0, .slice none 0 0, .slice none 0 0, .slice none 0 0, .int .i64 0, .slice none 0 0] 38 (0, 0))) := heap_alloc_new _ _
  have HG2 := Lib.hid ((hG2.keep hba).more hba.size)
  have HG3 := Lib.hid ((HG1.out.keep hbb).more hbb.size)
  have HB2 := Lib.hid (HB1.out.trans (hbb.mono HB1.out.size))
  have HK3 := Lib.hid ((hbb.block b1 hl1).trans HK1.out)
  have hl2 : w2.heap.size < (w2.alloc (.cells #[.int .i64 15, .int .i64 2, .int .i64 1, .slice none 0 0, .int .i64 3, .slice (some ⟨G2, 0, none⟩) 1 1, .int .i64 4, .slice none 0 0, .slice none 0 0, .int .i64 0, .int .i64 0, .slice none 0 0, .int .i64 0, .int .i64 0, .int .i64 0, .int .i64 0, .int .i64 0, .slice none 0 0, .slice none 0 0, .slice none 0 0, .slice none 0 0, .int .i64 0, .slice none 0 0] 38)).heap.size := by simp
  have hl3 : b1 < (w2.alloc (.cells #[.int .i64 15, .int .i64 2, .int .i64 1, .slice none 0 0, .int .i64 3, .slice (some ⟨G2, 0, none⟩) 1 1, .int .i64 4, .slice none 0 0, .slice none 0 0, .int .i64 0, .int .i64 0, .slice none 0 0, .int .i64 0, .int .i64 0, .int .i64 0, .int .i64 0, .int .i64 0, .slice none 0 0, .slice none 0 0, .slice none 0 0, .slice none 0 0, .int .i64 0, .slice none 0 0] 38)).heap.size := Nat.lt_of_lt_of_le hl1 hbb.size
  clear hba hbb hG2 hb2 HG1 HB1 HK1 hl1
  generalize w2.alloc (.cells #[.int .i64 15, .int .i64 2, .int .i64 1, .slice none 0 0, .int .i64 3, .slice (some ⟨G2, 0, none⟩) 1 1, .int .i64 4, .slice none 0 0, .slice none 0 0, .int .i64 0, .int .i64 0, .slice none 0 0, .int .i64 0, .int .i64 0, .int .i64 0, .int .i64 0, .int .i64 0, .slice none 0 0, .slice none 0 0, .slice none 0 0, .slice none 0 0, .int .i64 0, .slice none 0 0] 38) = W2 at *
  generalize w2.heap.size = b2 at *
  clear w2 W1
  have HR1 : Hid (W2.rangeAt b1 0 [.int .i64 1, .int .i64 2, .int .i64 1, .slice none 0 0, .int .i64 3, .slice (some ⟨G, 0, none⟩) 1 1, .int .i64 3, .slice none 0 0, .slice none 0 0, .int .i64 0, .int .i64 0, .slice none 0 0, .int .i64 0, .int .i64 0, .int .i64 0, .int .i64 0, .int .i64 0, .slice none 0 0, .slice none 0 0, .slice none 0 0, .slice none 0 0, .int .i64 0, .slice none 0 0]) := range_of_row HK3.out
  go_wp2_with (refine wpList_load_mid rfl 38 (.tmp 1) rfl b1 0 rfl [.int .i64 1, .int .i64 2, .int .i64 1, .slice none 0 0, .int .i64 3, .slice (some ⟨G, 0, none⟩) 1 1, .int .i64 3, .slice none 0 0, .slice none 0 0, .int .i64 0, .int .i64 0, .slice none 0 0, .int .i64 0, .int .i64 0, .int .i64 0, .int .i64 0, .int .i64 0, .slice none 0 0, .slice none 0 0, .slice none 0 0, .slice none 0 0, .int .i64 0, .slice none 0 0] _ HR1.out Tryz.underlying38 rfl stepSize ?_)
  have hba : Below W2.heap.size W2 (W2.alloc (.cells #[.int .i64 1, .int .i64 2, .int .i64 1, .slice none 0 0, .int .i64 3, .slice (some ⟨G, 0, none⟩) 1 1, .int .i64 3, .slice none 0 0, .slice none 0 0, .int .i64 0, .int .i64 0, .slice none 0 0, .int .i64 0, .int .i64 0, .int .i64 0, .int .i64 0, .int .i64 0, .slice none 0 0, .slice none 0 0, .slice none 0 0, .slice none 0 0, .int .i64 0, .slice none 0 0] 38)) := (Below.refl _ _).alloc (Nat.le_refl _) _
  have HC1 := Lib.hid (check_1 G W2.heap.size (W2.alloc (.cells #[.int .i64 1, .int .i64 2, .int .i64 1, .slice none 0 0, .int .i64 3, .slice (some ⟨G, 0, none⟩) 1 1, .int .i64 3, .slice none 0 0, .slice none 0 0, .int .i64 0, .int .i64 0, .slice none 0 0, .int .i64 0, .int .i64 0, .int .i64 0, .int .i64 0, .int .i64 0, .slice none 0 0, .slice none 0 0, .slice none 0 0, .slice none 0 0, .int .i64 0, .slice none 0 0] 38)) (range_of_row (heap_alloc_new _ _)) (by simp) ((HG3.out.keep hba).more hba.size))
  refine HC1.out.mono ?_
  rintro e W4 ⟨he, hb4⟩
  have he2 : e = .returned (.int .i64 0) := he
  subst he2
  have hbb : Below W2.heap.size W2 W4 := hba.trans (hb4.mono hba.size)
  have HK5 := Lib.hid ((hbb.block b1 hl3).trans HK3.out)
  have HK6 := Lib.hid ((hbb.block b2 hl2).trans HK2.out)
  have HG6 := Lib.hid ((HG2.out.keep hbb).more hbb.size)
  have HB6 := Lib.hid (HB2.out.trans (hbb.mono HB2.out.size))
  clear he hba hb4 hbb HC1 HR1 HK3 HK2 HG2 HG3 HB2 hl2 hl3
  generalize W2.heap.size = nb at *
  have HR1 : Hid (W4.rangeAt b1 0 [.int .i64 1, .int .i64 2, .int .i64 1, .slice none 0 0, .int .i64 3, .slice (some ⟨G, 0, none⟩) 1 1, .int .i64 3, .slice none 0 0, .slice none 0 0, .int .i64 0, .int .i64 0, .slice none 0 0, .int .i64 0, .int .i64 0, .int .i64 0, .int .i64 0, .int .i64 0, .slice none 0 0, .slice none 0 0, .slice none 0 0, .slice none 0 0, .int .i64 0, .slice none 0 0]) := range_of_row HK5.out
  have HR2 : Hid (W4.rangeAt b2 0 [.int .i64 15, .int .i64 2, .int .i64 1, .slice none 0 0, .int .i64 3, .slice (some ⟨G2, 0, none⟩) 1 1, .int .i64 4, .slice none 0 0, .slice none 0 0, .int .i64 0, .int .i64 0, .slice none 0 0, .int .i64 0, .int .i64 0, .int .i64 0, .int .i64 0, .int .i64 0, .slice none 0 0, .slice none 0 0, .slice none 0 0, .slice none 0 0, .int .i64 0, .slice none 0 0]) := range_of_row HK6.out
  go_wp2_with (first
    | (refine wpList_gload_mid rfl 38 (.tmp 1) rfl b1 0 rfl [.int .i64 1, .int .i64 2, .int .i64 1, .slice none 0 0, .int .i64 3, .slice (some ⟨G, 0, none⟩) 1 1, .int .i64 3, .slice none 0 0, .slice none 0 0, .int .i64 0, .int .i64 0, .slice none 0 0, .int .i64 0, .int .i64 0, .int .i64 0, .int .i64 0, .int .i64 0, .slice none 0 0, .slice none 0 0, .slice none 0 0, .slice none 0 0, .int .i64 0, .slice none 0 0] _ HR1.out Tryz.underlying38 rfl stepSize ?_)
    | (refine wpList_gload_mid rfl 38 (.tmp 2) rfl b2 0 rfl [.int .i64 15, .int .i64 2, .int .i64 1, .slice none 0 0, .int .i64 3, .slice (some ⟨G2, 0, none⟩) 1 1, .int .i64 4, .slice none 0 0, .slice none 0 0, .int .i64 0, .int .i64 0, .slice none 0 0, .int .i64 0, .int .i64 0, .int .i64 0, .int .i64 0, .int .i64 0, .slice none 0 0, .slice none 0 0, .slice none 0 0, .slice none 0 0, .int .i64 0, .slice none 0 0] _ HR2.out Tryz.underlying38 rfl stepSize ?_))
  have hba : Below W4.heap.size W4 (W4.alloc (.cells #[.int .i64 1, .int .i64 2, .int .i64 1, .slice none 0 0, .int .i64 3, .slice (some ⟨G, 0, none⟩) 1 1, .int .i64 3, .slice none 0 0, .slice none 0 0, .int .i64 0, .int .i64 0, .slice none 0 0, .int .i64 0, .int .i64 0, .int .i64 0, .int .i64 0, .int .i64 0, .slice none 0 0, .slice none 0 0, .slice none 0 0, .slice none 0 0, .int .i64 0, .slice none 0 0, .int .i64 15, .int .i64 2, .int .i64 1, .slice none 0 0, .int .i64 3, .slice (some ⟨G2, 0, none⟩) 1 1, .int .i64 4, .slice none 0 0, .slice none 0 0, .int .i64 0, .int .i64 0, .slice none 0 0, .int .i64 0, .int .i64 0, .int .i64 0, .int .i64 0, .int .i64 0, .slice none 0 0, .slice none 0 0, .slice none 0 0, .slice none 0 0, .int .i64 0, .slice none 0 0] 38)) := (Below.refl _ _).alloc (Nat.le_refl _) _
  have HKX : Hid ((W4.alloc (.cells #[.int .i64 1, .int .i64 2, .int .i64 1, .slice none 0 0, .int .i64 3, .slice (some ⟨G, 0, none⟩) 1 1, .int .i64 3, .slice none 0 0, .slice none 0 0, .int .i64 0, .int .i64 0, .slice none 0 0, .int .i64 0, .int .i64 0, .int .i64 0, .int .i64 0, .int .i64 0, .slice none 0 0, .slice none 0 0, .slice none 0 0, .slice none 0 0, .int .i64 0, .slice none 0 0, .int .i64 15, .int .i64 2, .int .i64 1, .slice none 0 0, .int .i64 3, .slice (some ⟨G2, 0, none⟩) 1 1, .int .i64 4, .slice none 0 0, .slice none 0 0, .int .i64 0, .int .i64 0, .slice none 0 0, .int .i64 0, .int .i64 0, .int .i64 0, .int .i64 0, .int .i64 0, .slice none 0 0, .slice none 0 0, .slice none 0 0, .slice none 0 0, .int .i64 0, .slice none 0 0] 38)).heap[W4.heap.size]? = some (.cells (repC 1 3 G ++ repC 15 4 G2).toArray 38 (0, 0))) := heap_alloc_new _ _
  have HRX : Hid ((W4.alloc (.cells #[.int .i64 1, .int .i64 2, .int .i64 1, .slice none 0 0, .int .i64 3, .slice (some ⟨G, 0, none⟩) 1 1, .int .i64 3, .slice none 0 0, .slice none 0 0, .int .i64 0, .int .i64 0, .slice none 0 0, .int .i64 0, .int .i64 0, .int .i64 0, .int .i64 0, .int .i64 0, .slice none 0 0, .slice none 0 0, .slice none 0 0, .slice none 0 0, .int .i64 0, .slice none 0 0, .int .i64 15, .int .i64 2, .int .i64 1, .slice none 0 0, .int .i64 3, .slice (some ⟨G2, 0, none⟩) 1 1, .int .i64 4, .slice none 0 0, .slice none 0 0, .int .i64 0, .int .i64 0, .slice none 0 0, .int .i64 0, .int .i64 0, .int .i64 0, .int .i64 0, .int .i64 0, .slice none 0 0, .slice none 0 0, .slice none 0 0, .slice none 0 0, .int .i64 0, .slice none 0 0] 38)).rangeAt W4.heap.size 23 (repC 15 4 G2)) := fun j v hj => by
    have h : (repC 1 3 G ++ repC 15 4 G2)[23 + j]? = some v := by
      rw [List.getElem?_append_right (by show 23 ≤ 23 + j; omega)]
      show (repC 15 4 G2)[23 + j - 23]? = some v
      rw [Nat.add_sub_cancel_left]
      exact hj
    have h2 := range_of_row HKX.out (23 + j) v h
    rw [Nat.zero_add] at h2
    exact h2
  have HC2 := Lib.hid (check_15 G2 W4.heap.size (W4.alloc (.cells #[.int .i64 1, .int .i64 2, .int .i64 1, .slice none 0 0, .int .i64 3, .slice (some ⟨G, 0, none⟩) 1 1, .int .i64 3, .slice none 0 0, .slice none 0 0, .int .i64 0, .int .i64 0, .slice none 0 0, .int .i64 0, .int .i64 0, .int .i64 0, .int .i64 0, .int .i64 0, .slice none 0 0, .slice none 0 0, .slice none 0 0, .slice none 0 0, .int .i64 0, .slice none 0 0, .int .i64 15, .int .i64 2, .int .i64 1, .slice none 0 0, .int .i64 3, .slice (some ⟨G2, 0, none⟩) 1 1, .int .i64 4, .slice none 0 0, .slice none 0 0, .int .i64 0, .int .i64 0, .slice none 0 0, .int .i64 0, .int .i64 0, .int .i64 0, .int .i64 0, .int .i64 0, .slice none 0 0, .slice none 0 0, .slice none 0 0, .slice none 0 0, .int .i64 0, .slice none 0 0] 38)) HRX.out (by simp) ((HG6.out.keep hba).more hba.size))
  refine HC2.out.mono ?_
  rintro e W6 ⟨he, hb6⟩
  have he2 : e = .returned (.int .i64 13) := he
  subst he2
  have HB7 := Lib.hid (HB6.out.trans ((hba.trans (hb6.mono hba.size)).mono HB6.out.size))
  clear he hba hb6 HC2 HRX HKX HR1 HR2 HK5 HK6 HG6 HB6
  go_wp2_with fail
  go_ret
  exact ⟨rfl, HB7.out⟩
end Go.Proofs.YthiackegnpnmbaaGreat

