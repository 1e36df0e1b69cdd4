/-
  derive.Text: the text of a derivation.
-/
import Derived.Test.YtgnggmknbajmcaaDoorRefText
import Derived.Test.YtgnggmknbajmcaaDoorGrow
namespace Go.Proofs.YtgnggmknbajmcaaDoor
open Go.RowKit

/-- The names of the rules, in the package's own variable (block 0). -/
def NamesAt (w : World) : Prop := ∀ i, i < 20 → w.cell? ⟨0, i, none⟩ = some (.string ⟨(ruleNames.getD i []).toArray⟩)
theorem NamesAt.lt {w : World} (h : NamesAt w) : 0 < w.heap.size := World.block_lt_of_cell? w _ (h 0 (by omega))
theorem NamesAt.grow {w w' : World} (h : NamesAt w) (hb : Below w.heap.size w w') : NamesAt w' := fun i hi => (hb.cell (p := ⟨0, i, none⟩) h.lt).trans (h i hi)

def RelO (w : World) (ds : List StepD) (i : Value) (wr : World) : Prop :=
  ∃ k : Nat, k ≤ ds.length ∧ i = .int .i64 k ∧ Lib.IsBuilderF 42 5 w.heap.size w.heap.size (Lib.byteCells (allText 0 (ds.take k))) wr ∧ Below w.heap.size w wr
def inR (r : Int) : Bool := decide (0 ≤ r ∧ r < 20)
def CutTest (W1 : World) (D : StepD) (t : Value) (wr : World) : Prop := t = .bool (inR D.rule) ∧ W1 = wr
def CutName (W1 : World) (D : StepD) (t : Value) (wr : World) : Prop := t = .string ⟨(nameOf D.rule).toArray⟩ ∧ W1 = wr

/-- Between two writes: the builder (block w.heap.size) holds T; the copy of the step stands in block gB; below, all is as it was. -/
def Mid (w : World) (gB : Nat) (cs : Array Value) (T : List UInt8) (wx : World) : Prop :=
  Lib.IsBuilderF 42 5 w.heap.size w.heap.size (Lib.byteCells T) wx ∧ Below w.heap.size w wx ∧ wx.heap[gB]? = some (.cells cs 36 (0, 0))
theorem Mid.grow {w : World} {gB : Nat} {cs : Array Value} {T : List UInt8} {wx w' : World} (h : Mid w gB cs T wx) (hb : Below wx.heap.size wx w') : Mid w gB cs T w' := by
  obtain ⟨h1, h2, h3⟩ := h
  exact ⟨isBuilder_grow h1 hb, h2.trans (hb.mono h2.size), (hb.block gB (Array.getElem?_eq_some_iff.1 h3).1).trans h3⟩
theorem Mid.cell {w : World} {gB : Nat} {cs : Array Value} {T : List UInt8} {wx : World} (h : Mid w gB cs T wx) (j : Nat) : wx.cell? ⟨gB, j, none⟩ = cs[j]? := cell_of_row _ _ _ _ _ _ h.2.2
theorem write_mid {w : World} {gB : Nat} {cs : Array Value} {T : List UInt8} {wx : World} (l : List UInt8) (h : Mid w gB cs T wx) (hne : w.heap.size < gB) (hl : T.length + l.length ≤ 140737488355328) :
    Calls Tryd.prog 6 #[.pointer (some ⟨w.heap.size, 0, none⟩), .string ⟨l.toArray⟩] wx fun e w' => e = .returned (.tuple #[.int .i64 l.length, .nilIface]) ∧ Mid w gB cs (T ++ l) w' := by
  obtain ⟨h1, h2, h3⟩ := h
  refine (writeString_any w.heap.size w.heap.size _ ⟨l.toArray⟩ wx h1 (by simp [Lib.byteCells, ByteArray.size]; omega) h2.size).mono ?_
  rintro e w' ⟨rfl, hb, hbel, hoth⟩
  refine ⟨by simp [ByteArray.size], .inr ?_, h2.trans hbel, hoth gB _ h3 (by simp; omega) (by simp)⟩
  rw [Lib.byteCells_append]
  exact hb
theorem head_eq' (k : Nat) (D : StepD) :
    (⟨(Lib.itoa k).toArray⟩ : ByteArray) ++ ⟨#[58, 32, 108, 101, 110, 103, 116, 104, 32]⟩ ++ ⟨(Lib.itoa D.n).toArray⟩ ++ ⟨#[44, 32, 100, 105, 109, 101, 110, 115, 105, 111, 110, 32]⟩ ++ ⟨(Lib.itoa D.gen).toArray⟩ ++ ⟨#[44, 32, 102, 105, 101, 108, 100, 32]⟩ ++ ⟨(Lib.itoa D.p).toArray⟩ ++ ⟨#[94]⟩ ++ ⟨(Lib.itoa D.m).toArray⟩ ++ ⟨#[44, 32, 119, 101, 105, 103, 104, 116, 32, 97, 116, 32, 108, 101, 97, 115, 116, 32]⟩ ++ ⟨(Lib.itoa D.low).toArray⟩ ++ ⟨#[44, 32, 98, 121, 32]⟩ ++ ⟨(nameOf D.rule).toArray⟩ = ⟨(headText k D).toArray⟩ := by
  unfold headText
  simp only [ba_append]
def RelI (w : World) (gB : Nat) (cs : Array Value) (T : List UInt8) (zs : List Int) (i : Value) (wr : World) : Prop :=
  ∃ j : Nat, j ≤ zs.length ∧ i = .int .i64 j ∧ Mid w gB cs (T ++ fromText 0 (zs.take j)) wr

set_option maxHeartbeats 4000000 in
set_option maxRecDepth 100000 in
theorem text_any (A : Option Addr) (c : Nat) (ds : List StepD) (w : World) (hd : StepsAt w w.heap.size A ds) (hn : ds.length ≤ 40) (hf : ∀ d ∈ ds, d.ok ∧ d.frm.length ≤ 100) (ht : Pows w) (hnm : NamesAt w) :
    Calls Tryd.prog 4 #[.slice A ds.length c] w fun e w' => e = .returned (.string ⟨(allText 0 ds).toArray⟩) ∧ Below w.heap.size w w' := by
  have HF := Lib.hid hf
  have HTB := Lib.hid ht
  have HNM := Lib.hid hnm
  clear hf ht hnm
  go_enter Tryd.func4, Tryd.ntmps4
  go_wp2_with fail
  go_loopw [11] (fun i wr => RelO w ds i wr) (fun i _ => ds.length - (intOf i).toNat)
  case atStart => exact ⟨0, Nat.zero_le _, rfl, isBuilder_fresh 42 5 w, (Below.refl _ _).alloc (Nat.le_refl _) _⟩
  case round =>
    obtain ⟨k, hk, rfl, hbd, hb⟩ := hrel
    have lT := allText_len 0 (ds.take k) (by simp; omega) (fun d hd => HF.out d (List.mem_of_mem_take hd))
    have lk : (ds.take k).length ≤ 40 := by simp; omega
    have HBD := Lib.hid hbd
    have hbs := hb.size
    have hbl0 := isBuilder_lt hbd
    clear hbd
    by_cases hlt : k < ds.length
    · obtain ⟨b, o, rfl, hs⟩ := hd (by omega)
      obtain ⟨hbl, hok, c3, c8, c9, c10, c11, c12, c13, c14, c15, c16, c17, c18, c19, c20, c21, c22, ga, fa, gc, fc, hr, h1, hi⟩ := (hs k ds[k] (List.getElem?_eq_getElem hlt)).keep hb
      have HA := Lib.hid (one_all ds[k] ga fa gc fc h1)
      have HI := Lib.hid hi
      have HOK := Lib.hid hok
      have HB := Lib.hid hb
      have HS : Hid (ds.take (k + 1) = ds.take k ++ [ds[k]]) := List.take_succ_eq_append_getElem hlt
      clear h1 hi hok hb hs hd
      go_upto_region 6 with (first
        | (refine wpList_load_mid rfl 36 (.tmp 14) rfl b (o + k * 23) rfl _ _ hr Tryd.underlying36 rfl size36 ?_)
        | (refine wpList_store_new rfl 36 (.tmp 5) (.tmp 15) rfl wr _ _ rfl rfl size36 rfl HA.out ?_))
      go_simp
      obtain ⟨⟨r0, r1⟩, ⟨p0, p1⟩, ⟨m0, m1⟩, ⟨n0, n1⟩, g1, ⟨l0, l1⟩, f1, HZ⟩ := HOK.out
      have HFk : ds[k].frm.length ≤ 100 := (HF.out _ (List.getElem_mem hlt)).2
      generalize hD : ds[k] = D at *
      generalize hW1 : wr.alloc (Obj.cells #[Value.int IntKind.i64 D.rule, Value.int IntKind.i64 D.p, Value.int IntKind.i64 D.m, c3, Value.int IntKind.i64 D.n, Value.slice ga D.gen gc, Value.int IntKind.i64 D.low, Value.slice fa D.frm.length fc, c8, c9, c10, c11, c12, c13, c14, c15, c16, c17, c18, c19, c20, c21, c22] 36) = W1
      have q0 : W1.cell? ⟨wr.heap.size, 0, none⟩ = some (.int .i64 D.rule) := by rw [← hW1, cell_of_row _ _ _ _ _ _ (heap_alloc_new wr _)]; rfl
      have q1 : W1.cell? ⟨wr.heap.size, 1, none⟩ = some (.int .i64 D.p) := by rw [← hW1, cell_of_row _ _ _ _ _ _ (heap_alloc_new wr _)]; rfl
      have q2 : W1.cell? ⟨wr.heap.size, 2, none⟩ = some (.int .i64 D.m) := by rw [← hW1, cell_of_row _ _ _ _ _ _ (heap_alloc_new wr _)]; rfl
      have q4 : W1.cell? ⟨wr.heap.size, 4, none⟩ = some (.int .i64 D.n) := by rw [← hW1, cell_of_row _ _ _ _ _ _ (heap_alloc_new wr _)]; rfl
      have q5 : W1.cell? ⟨wr.heap.size, 5, none⟩ = some (.slice ga D.gen gc) := by rw [← hW1, cell_of_row _ _ _ _ _ _ (heap_alloc_new wr _)]; rfl
      have q6 : W1.cell? ⟨wr.heap.size, 6, none⟩ = some (.int .i64 D.low) := by rw [← hW1, cell_of_row _ _ _ _ _ _ (heap_alloc_new wr _)]; rfl
      have q7 : W1.cell? ⟨wr.heap.size, 7, none⟩ = some (.slice fa D.frm.length fc) := by rw [← hW1, cell_of_row _ _ _ _ _ _ (heap_alloc_new wr _)]; rfl
      obtain ⟨cs, hg36, hcs7⟩ : ∃ cs : Array Value, W1.heap[wr.heap.size]? = some (.cells cs 36 (0, 0)) ∧ cs[7]? = some (.slice fa D.frm.length fc) := ⟨_, by rw [← hW1]; exact heap_alloc_new wr _, rfl⟩
      have hz1 : wr.heap.size < W1.heap.size := by rw [← hW1]; simp
      have hbw1 : Below wr.heap.size wr W1 := by rw [← hW1]; exact (Below.refl _ _).alloc (Nat.le_refl _) _
      have HB1 : Hid (Below w.heap.size w W1) := HB.out.trans (hbw1.mono HB.out.size)
      have HI1 : Hid (IntsAt W1 w.heap.size fa D.frm) := HI.out.keep (hbw1.mono HB.out.size)
      have HBD1 := Lib.hid (isBuilder_grow HBD.out hbw1)
      have HTB1 := Lib.hid (HTB.out.grow HB1.out)
      have HNM1 := Lib.hid (HNM.out.grow HB1.out)
      have HD := Lib.hid hD
      have HZ' := Lib.hid HZ
      have li := Lib.itoa_length_le k (by omega) (by omega)
      have ln := Lib.itoa_length_le D.n n0 n1
      have lp := Lib.itoa_length_le D.p p0 p1
      have lm := Lib.itoa_length_le D.m m0 m1
      have lw := Lib.itoa_length_le D.low l0 l1
      have lg := Lib.itoa_length_le D.gen (by omega) (by omega)
      have lr := nameOf_len D.rule
      have lF := fromText_len 0 D.frm HZ
      have lH := headText_len k D (by omega) HOK.out
      have HSS := Lib.hid HS.out
      have HSn : Hid (∀ X : List UInt8, X = stepText k D → allText 0 (ds.take (k + 1)) = allText 0 (ds.take k) ++ X) := by
        intro X hX
        rw [HSS.out, allText_snoc, hX]
        simp [Nat.min_eq_left (Nat.le_of_lt hlt)]
      have hgw : w.heap.size < wr.heap.size := hbl0
      clear hW1 hD HZ hr HA HI HS HSS HB HBD hbw1 hbs hbl0
      have HC7 := Lib.hid hcs7
      have HM1 : Hid (Mid w wr.heap.size cs (allText 0 (ds.take k)) W1) := ⟨HBD1.out, HB1.out, hg36⟩
      clear hg36 hcs7
      generalize wr.heap.size = gB at *
      clear wr
      go_cut [23] (fun t wx => CutTest W1 D t wx)
      case first =>
        by_cases ha : 0 ≤ D.rule
        · by_cases hb : D.rule < 20
          · go_wp2_with fail
            go_meet
            exact ⟨congrArg Value.bool (by simp [inR, ha, hb]), rfl⟩
          · go_wp2_with fail
            go_meet
            exact ⟨congrArg Value.bool (by simp [inR]; omega), rfl⟩
        · go_wp2_with fail
          go_meet
          exact ⟨congrArg Value.bool (by simp [inR]; omega), rfl⟩
      case rest =>
        obtain ⟨rfl, rfl⟩ := hcut
        go_upto_if 23 with fail
        go_cut [6] (fun t wx => CutName W1 D t wx)
        case first =>
          by_cases ha : 0 ≤ D.rule ∧ D.rule < 20
          · have hdec : inR D.rule = true := by simp [inR, ha]
            have hnc := HNM1.out D.rule.toNat (by omega)
            have hnn : Hid (nameOf D.rule = ruleNames.getD D.rule.toNat []) := by
              show _ = _
              unfold nameOf
              rw [if_pos ha]
            obtain ⟨ha1, ha2⟩ := ha
            rw [hdec]
            clear hdec
            go_wp2_with fail
            go_meet
            exact ⟨congrArg Value.string (by rw [hnn.out]; simp), rfl⟩
          · have hdec : inR D.rule = false := by simp [inR]; omega
            have hnn : Hid (nameOf D.rule = [63]) := by
              show _ = _
              unfold nameOf
              rw [if_neg ha]
            clear ha
            rw [hdec]
            clear hdec
            go_wp2_with fail
            go_meet
            exact ⟨congrArg Value.string (by rw [hnn.out]), rfl⟩
        case rest =>
          obtain ⟨rfl, rfl⟩ := hcut
          go_upto_region 8 with fail
          go_cut [65] (fun _ wx => Mid w gB cs (allText 0 (ds.take k) ++ headText k D) wx)
          case first =>
            refine wp_region_keep_tail 37 (SBox W1 gB D ga gc) (by kernel_rfl) (by kernel_rfl) ⟨(Below.refl _ _).drew, q0, q1, q2, q4, q5, q6⟩ ?_
            simp only [List.take_succ_cons, List.take_zero, List.drop_succ_cons, List.drop_zero]
            repeat (first
              | (apply keep_val rfl
                 · intro W hS
                   obtain ⟨_, e0, e1, e2, e4, e5, e6⟩ := hS
                   go_simp
                   first
                     | rfl
                     | (rw [if_neg (by omega)] <;> rfl)
                 go_simp)
              | (apply keep_call rfl
                 · intro W hS
                   go_simp
                   exact ⟨rfl, rfl⟩
                 · intro W hS
                   exact (itoa_c _ W (by omega) (by omega) (HTB1.out.grow hS.1)).mono (by rintro e w' ⟨rfl, hbw⟩; exact ⟨rfl, hS.grow hz1 hbw⟩)
                 go_simp))
            refine wpKeep_nil ?_
            intro w2 hS2
            have HM2 := Lib.hid (HM1.out.grow hS2.1)
            rw [head_eq' k D]
            clear hS2
            go_wp2_with (go_at_call 6; refine (write_mid _ HM2.out hgw (by omega)).mono ?_; rintro e w' ⟨rfl, hM3⟩)
            go_meet
            exact hM3
          case rest =>
            have HM2 := Lib.hid hcut
            clear hcut
            have c7 := (HM2.out.cell 7).trans HC7.out
            go_wp2_with fail
            clear c7
            go_loopw [69] (fun i wi => RelI w gB cs (allText 0 (ds.take k) ++ headText k D) D.frm i wi) (fun i _ => D.frm.length - (intOf i).toNat)
            case atStart => exact ⟨0, Nat.zero_le _, rfl, by simpa [fromText] using HM2.out⟩
            case round =>
              obtain ⟨j, hj, rfl, hM3⟩ := hrel
              have lj := fromText_len 0 (D.frm.take j) (fun z hz => HZ'.out z (List.mem_of_mem_take hz))
              have lj2 : (D.frm.take j).length ≤ 100 := by simp; omega
              have HM3 := Lib.hid hM3
              clear hM3
              by_cases hjl : j < D.frm.length
              · obtain ⟨fb, fo, rfl, hfb, hcf⟩ := HI1.out (by omega)
                have cz : wr.cell? ⟨fb, fo + j, none⟩ = some (.int .i64 (D.frm.getD j 0)) := (HM3.out.2.1.cell (p := ⟨fb, fo + j, none⟩) hfb).trans ((HB1.out.cell (p := ⟨fb, fo + j, none⟩) hfb).symm.trans (hcf j hjl))
                have hzj : okI (D.frm.getD j 0) := HZ'.out _ (by rw [List.getD_eq_getElem?_getD, List.getElem?_eq_getElem hjl]; exact List.getElem_mem hjl)
                have HT : Hid (D.frm.take (j + 1) = D.frm.take j ++ [D.frm.getD j 0]) := by
                  show _ = _
                  rw [List.take_succ_eq_append_getElem hjl, List.getD_eq_getElem?_getD, List.getElem?_eq_getElem hjl]; rfl
                obtain ⟨hz0, hz1'⟩ := hzj
                have lz := Lib.itoa_length_le _ hz0 hz1'
                generalize D.frm.getD j 0 = z at *
                clear hcf
                by_cases hj0 : j = 0
                · have hj1 : ((j : Int) == 0) = true := by simp; omega
                  have HNE : Hid (0 + (D.frm.take j).length = 0) := by
                    show _ = _
                    rw [List.length_take]; omega
                  clear hj0
                  go_wp2_with fail
                  refine (write_mid [32, 111, 102, 32] HM3.out hgw (by simp; omega)).mono ?_
                  rintro e w4 ⟨rfl, hM4⟩
                  have HM4 := Lib.hid hM4
                  clear hM4
                  go_wp2_with fail
                  refine (itoa_c _ _ hz0 hz1' (HTB.out.grow HM4.out.2.1)).mono ?_
                  rintro e w5 ⟨rfl, hb5⟩
                  have HM5 := Lib.hid (HM4.out.grow hb5)
                  clear hb5
                  go_wp2_with fail
                  refine (write_mid _ HM5.out hgw (by simp; omega)).mono ?_
                  rintro e w6 ⟨rfl, hM6⟩
                  have HM6 := Lib.hid hM6
                  clear hM6
                  go_wp2_with fail
                  go_roundw
                  case rel =>
                    refine ⟨j + 1, by omega, by go_num, ?_⟩
                    rw [HT.out, fromText_snoc, if_pos HNE.out]
                    simpa using HM6.out
                  case measure => simp [intOf]; omega
                · have hj1 : ((j : Int) == 0) = false := by simp; omega
                  have HNE : Hid (¬ (0 + (D.frm.take j).length = 0)) := by
                    show ¬ _
                    rw [List.length_take]; omega
                  clear hj0
                  go_wp2_with fail
                  refine (write_mid [44, 32] HM3.out hgw (by simp; omega)).mono ?_
                  rintro e w4 ⟨rfl, hM4⟩
                  have HM4 := Lib.hid hM4
                  clear hM4
                  go_wp2_with fail
                  refine (itoa_c _ _ hz0 hz1' (HTB.out.grow HM4.out.2.1)).mono ?_
                  rintro e w5 ⟨rfl, hb5⟩
                  have HM5 := Lib.hid (HM4.out.grow hb5)
                  clear hb5
                  go_wp2_with fail
                  refine (write_mid _ HM5.out hgw (by simp; omega)).mono ?_
                  rintro e w6 ⟨rfl, hM6⟩
                  have HM6 := Lib.hid hM6
                  clear hM6
                  go_wp2_with fail
                  go_roundw
                  case rel =>
                    refine ⟨j + 1, by omega, by go_num, ?_⟩
                    rw [HT.out, fromText_snoc, if_neg HNE.out]
                    simpa using HM6.out
                  case measure => simp [intOf]; omega
              · have HT : Hid (D.frm.take j = D.frm) := List.take_of_length_le (by omega)
                go_wp2_with fail
                refine (write_mid [10] HM3.out hgw (by simp; omega)).mono ?_
                rintro e w4 ⟨rfl, hM4⟩
                have HM4 := Lib.hid hM4
                clear hM4
                go_wp2_with fail
                go_roundw
                case rel =>
                  refine ⟨k + 1, by omega, by go_num, ?_, HM4.out.2.1⟩
                  rw [HSn.out _ rfl]
                  have := HM4.out.1
                  rw [HT.out] at this
                  simpa [stepText] using this
                case measure => simp [intOf]; omega
    · have HB := Lib.hid hb
      clear hb
      have HT : Hid (ds.take k = ds) := List.take_of_length_le (by omega)
      go_wp2_with fail
      refine (Tryd.Builder_String_any_k w.heap.size w.heap.size _ _ HBD.out hbs).mono ?_
      rintro e w4 ⟨rfl, _, hb4, _⟩
      have HB4 := Lib.hid hb4
      clear hb4
      go_wp2_with fail
      go_ret
      exact ⟨ret_str (by rw [HT.out]), HB.out.trans HB4.out⟩
#print axioms text_any
end Go.Proofs.YtgnggmknbajmcaaDoor
