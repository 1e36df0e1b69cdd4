/-
  The reference's text of a derivation.
-/
import Derived.Test.YtgnggmknbajmcaaDoorData
import Derived.Deep.RegionHeld3
import Derived.Deep.QuietTactic
import Derived.BigQuiet
import Derived.LoopTactic
import Derived.Outline
import Derived.Deep.DeepCutAuto
import Derived.Test.YtgnggmknbajmcaaDoorStable
namespace Go.Proofs.YtgnggmknbajmcaaDoor
open Go.RowKit

theorem size36 : (Tryd.prog.info? 36).map (·.size) = some 23 := by kernel_rfl

theorem one_all (d : StepD) (ga fa : Option Addr) (gc fc : Nat) {c3 c8 c9 c10 c11 c12 c13 c14 c15 c16 c17 c18 c19 c20 c21 c22 : Value} (h : ∀ v ∈ [c3, c8, c9, c10, c11, c12, c13, c14, c15, c16, c17, c18, c19, c20, c21, c22], v.oneCell' = true) :
    (#[.int .i64 d.rule, .int .i64 d.p, .int .i64 d.m, c3, .int .i64 d.n, .slice ga d.gen gc, .int .i64 d.low, .slice fa d.frm.length fc, c8, c9, c10, c11, c12, c13, c14, c15, c16, c17, c18, c19, c20, c21, c22] : Array Value).all (·.oneCell') = true := by
  simp only [List.mem_cons, List.not_mem_nil, or_false, forall_eq_or_imp, forall_eq] at h
  obtain ⟨h3, h8, h9, h10, h11, h12, h13, h14, h15, h16, h17, h18, h19, h20, h21, h22⟩ := h
  refine all_oneCell_toArray (cs := [.int .i64 d.rule, .int .i64 d.p, .int .i64 d.m, c3, .int .i64 d.n, .slice ga d.gen gc, .int .i64 d.low, .slice fa d.frm.length fc, c8, c9, c10, c11, c12, c13, c14, c15, c16, c17, c18, c19, c20, c21, c22]) ?_
  simp only [List.mem_cons, List.not_mem_nil, or_false, forall_eq_or_imp, forall_eq]
  exact ⟨rfl, rfl, rfl, h3, rfl, rfl, rfl, rfl, h8, h9, h10, h11, h12, h13, h14, h15, h16, h17, h18, h19, h20, h21, h22⟩

theorem number_c (n : Int) (w : World) (h0 : -9223372036854775808 ≤ n) (h1 : n ≤ 9223372036854775807) : Calls Tryd.prog 9 #[.int .i64 n] w fun e w' => e = .returned (.string ⟨(Lib.itoa n).toArray⟩) ∧ w = w' := number_any _ n w (Nat.le_refl _) h0 h1

def RelOuter (w : World) (ds : List StepD) (t i : Value) (wr : World) : Prop :=
  ∃ k : Nat, k ≤ ds.length ∧ i = .int .i64 k ∧ t = .string ⟨(allText 0 (ds.take k)).toArray⟩ ∧ Below w.heap.size w wr
def RelInner (W1 : World) (T : List UInt8) (zs : List Int) (t i : Value) (wr : World) : Prop :=
  ∃ j : Nat, j ≤ zs.length ∧ i = .int .i64 j ∧ t = .string ⟨(T ++ fromText 0 (zs.take j)).toArray⟩ ∧ Below W1.heap.size W1 wr
/-- What the text's statement finds in the copy of the step (block g), in every world that has only grown since. -/
def SBox (W1 : World) (g : Nat) (D : StepD) (ga : Option Addr) (gc : Nat) (w' : World) : Prop :=
  Below W1.heap.size W1 w' ∧ w'.cell? ⟨g, 0, none⟩ = some (.int .i64 D.rule) ∧ w'.cell? ⟨g, 1, none⟩ = some (.int .i64 D.p) ∧ w'.cell? ⟨g, 2, none⟩ = some (.int .i64 D.m) ∧ w'.cell? ⟨g, 4, none⟩ = some (.int .i64 D.n) ∧ w'.cell? ⟨g, 5, none⟩ = some (.slice ga D.gen gc) ∧ w'.cell? ⟨g, 6, none⟩ = some (.int .i64 D.low)
theorem SBox.grow {W1 : World} {g : Nat} {D : StepD} {ga : Option Addr} {gc : Nat} {W w' : World} (hg : g < W1.heap.size) (h : SBox W1 g D ga gc W) (hbw : Below W.heap.size W w') : SBox W1 g D ga gc w' := by
  obtain ⟨hb0, e0, e1, e2, e4, e5, e6⟩ := h
  have hsz := hb0.size
  have hlt' : g < W.heap.size := by omega
  exact ⟨hb0.trans (hbw.mono hb0.size), (hbw.cell hlt').trans e0, (hbw.cell hlt').trans e1, (hbw.cell hlt').trans e2, (hbw.cell hlt').trans e4, (hbw.cell hlt').trans e5, (hbw.cell hlt').trans e6⟩
def CutHead (W1 : World) (T : List UInt8) (t : Value) (wr : World) : Prop := t = .string ⟨T.toArray⟩ ∧ Below W1.heap.size W1 wr
theorem head_eq (T : List UInt8) (k : Nat) (D : StepD) :
    (⟨T.toArray⟩ : ByteArray) ++ (⟨(Lib.itoa k).toArray⟩ ++ ⟨#[58, 32, 108, 101, 110, 103, 116, 104, 32]⟩ ++ ⟨(Lib.itoa D.n).toArray⟩ ++ ⟨#[44, 32, 100, 105, 109, 101, 110, 115, 105, 111, 110, 32]⟩ ++ ⟨(Lib.itoa D.gen).toArray⟩ ++ ⟨#[44, 32, 102, 105, 101, 108, 100, 32]⟩ ++ ⟨(Lib.itoa D.p).toArray⟩ ++ ⟨#[94]⟩ ++ ⟨(Lib.itoa D.m).toArray⟩ ++ ⟨#[44, 32, 119, 101, 105, 103, 104, 116, 32, 97, 116, 32, 108, 101, 97, 115, 116, 32]⟩ ++ ⟨(Lib.itoa D.low).toArray⟩ ++ ⟨#[44, 32, 98, 121, 32]⟩ ++ ⟨(nameOf D.rule).toArray⟩) = ⟨(T ++ headText k D).toArray⟩ := by
  unfold headText
  simp only [ba_append]

set_option maxHeartbeats 4000000 in
set_option maxRecDepth 100000 in
theorem refText_any (A : Option Addr) (c : Nat) (ds : List StepD) (w : World) (hd : StepsAt w w.heap.size A ds) (hn : ds.length ≤ 40) (hf : ∀ d ∈ ds, d.ok ∧ d.frm.length ≤ 100) :
    Calls Tryd.prog 5 #[.slice A ds.length c] w fun e w' => e = .returned (.string ⟨(allText 0 ds).toArray⟩) ∧ Below w.heap.size w w' := by
  have HF := Lib.hid hf
  clear hf
  go_enter Tryd.func5, Tryd.ntmps5
  go_wp2_with fail
  go_loopw [3, 4] (fun t i wr => RelOuter w ds t i wr) (fun _ i _ => ds.length - (intOf i).toNat)
  case atStart => exact ⟨0, Nat.zero_le _, rfl, rfl, Below.refl _ _⟩
  case round =>
    obtain ⟨k, hk, rfl, rfl, hb⟩ := hrel
    have lT := allText_len 0 (ds.take k) (by simp; omega) (fun d hd => HF.out d (List.mem_of_mem_take hd))
    have lk : (ds.take k).length ≤ 40 := by simp; omega
    by_cases hlt : k < ds.length
    · obtain ⟨b, o, rfl, hs⟩ := hd (by omega)
      obtain ⟨hbl, hok, c3, c8, c9, c10, c11, c12, c13, c14, c15, c16, c17, c18, c19, c20, c21, c22, ga, fa, gc, fc, hr, h1, hi⟩ := (hs k ds[k] (List.getElem?_eq_getElem hlt)).keep hb
      have HA := Lib.hid (one_all ds[k] ga fa gc fc h1)
      have HI := Lib.hid hi
      have HOK := Lib.hid hok
      have HB := Lib.hid hb
      have HL := Lib.hid (allText_len 0 (ds.take (k + 1)) (by simp; omega) (fun d hd => HF.out d (List.mem_of_mem_take hd)))
      have HS : Hid (ds.take (k + 1) = ds.take k ++ [ds[k]]) := List.take_succ_eq_append_getElem hlt
      clear h1 hi hok hb hs hd
      go_upto_region 6 with (first
        | (refine wpList_load_mid rfl 36 (.tmp 15) rfl b (o + k * 23) rfl _ _ hr Tryd.underlying36 rfl size36 ?_)
        | (refine wpList_store_new rfl 36 (.tmp 5) (.tmp 16) rfl wr _ _ rfl rfl size36 rfl HA.out ?_))
      go_simp
      obtain ⟨⟨r0, r1⟩, ⟨p0, p1⟩, ⟨m0, m1⟩, ⟨n0, n1⟩, g1, ⟨l0, l1⟩, f1, HZ⟩ := HOK.out
      have HFk : ds[k].frm.length ≤ 100 := (HF.out _ (List.getElem_mem hlt)).2
      generalize hD : ds[k] = D at *
      generalize hW1 : wr.alloc (Obj.cells #[Value.int IntKind.i64 D.rule, Value.int IntKind.i64 D.p, Value.int IntKind.i64 D.m, c3, Value.int IntKind.i64 D.n, Value.slice ga D.gen gc, Value.int IntKind.i64 D.low, Value.slice fa D.frm.length fc, c8, c9, c10, c11, c12, c13, c14, c15, c16, c17, c18, c19, c20, c21, c22] 36) = W1
      have q0 : W1.cell? ⟨wr.heap.size, 0, none⟩ = some (.int .i64 D.rule) := by rw [← hW1, cell_of_row _ _ _ _ _ _ (heap_alloc_new wr _)]; rfl
      have q1 : W1.cell? ⟨wr.heap.size, 1, none⟩ = some (.int .i64 D.p) := by rw [← hW1, cell_of_row _ _ _ _ _ _ (heap_alloc_new wr _)]; rfl
      have q2 : W1.cell? ⟨wr.heap.size, 2, none⟩ = some (.int .i64 D.m) := by rw [← hW1, cell_of_row _ _ _ _ _ _ (heap_alloc_new wr _)]; rfl
      have q4 : W1.cell? ⟨wr.heap.size, 4, none⟩ = some (.int .i64 D.n) := by rw [← hW1, cell_of_row _ _ _ _ _ _ (heap_alloc_new wr _)]; rfl
      have q5 : W1.cell? ⟨wr.heap.size, 5, none⟩ = some (.slice ga D.gen gc) := by rw [← hW1, cell_of_row _ _ _ _ _ _ (heap_alloc_new wr _)]; rfl
      have q6 : W1.cell? ⟨wr.heap.size, 6, none⟩ = some (.int .i64 D.low) := by rw [← hW1, cell_of_row _ _ _ _ _ _ (heap_alloc_new wr _)]; rfl
      have q7 : W1.cell? ⟨wr.heap.size, 7, none⟩ = some (.slice fa D.frm.length fc) := by rw [← hW1, cell_of_row _ _ _ _ _ _ (heap_alloc_new wr _)]; rfl
      have hz1 : wr.heap.size < W1.heap.size := by rw [← hW1]; simp
      have HB1 : Hid (Below w.heap.size w W1) := by rw [← hW1]; exact HB.out.alloc HB.out.size _
      have HI1 : Hid (IntsAt W1 w.heap.size fa D.frm) := HI.out.keep (by rw [← hW1]; exact (Below.refl _ _).alloc HB.out.size _)
      have HD := Lib.hid hD
      have HZ' := Lib.hid HZ
      have li := Lib.itoa_length_le k (by omega) (by omega)
      have ln := Lib.itoa_length_le D.n n0 n1
      have lp := Lib.itoa_length_le D.p p0 p1
      have lm := Lib.itoa_length_le D.m m0 m1
      have lw := Lib.itoa_length_le D.low l0 l1
      have lg := Lib.itoa_length_le D.gen (by omega) (by omega)
      have lr := nameOf_len D.rule
      have lF := fromText_len 0 D.frm HZ
      have lH := headText_len k D (by omega) HOK.out
      have HSS := Lib.hid HS.out
      have HSn : Hid (∀ X : List UInt8, X = stepText k D → allText 0 (ds.take (k + 1)) = allText 0 (ds.take k) ++ X) := by
        intro X hX
        rw [HSS.out, allText_snoc, hX]
        simp [Nat.min_eq_left (Nat.le_of_lt hlt)]
      clear hW1 hD HZ hr HA HI HS HSS HB
      generalize wr.heap.size = gB at *
      clear wr
      go_cut [3] (fun t wx => CutHead W1 (allText 0 (ds.take k) ++ headText k D) t wx)
      case first =>
        refine wp_region_keep (SBox W1 gB D ga gc) (by kernel_rfl) (by kernel_rfl) ⟨(Below.refl _ _).drew, q0, q1, q2, q4, q5, q6⟩ ?_
        repeat (first
          | (apply keep_val rfl
             · intro W hS
               obtain ⟨_, e0, e1, e2, e4, e5, e6⟩ := hS
               go_simp
               first
                 | rfl
                 | (rw [if_neg (by omega)] <;> rfl)
             go_simp)
          | (apply keep_call rfl
             · intro W hS
               go_simp
               exact ⟨rfl, rfl⟩
             · intro W hS
               first
                 | exact (number_c _ W (by omega) (by omega)).mono (by rintro e w' ⟨rfl, rfl⟩; exact ⟨rfl, hS⟩)
                 | exact (name_any _ W).mono (by rintro e w' ⟨rfl, hbw⟩; exact ⟨rfl, hS.grow hz1 hbw⟩)
             go_simp))
        refine wpKeep_nil ?_
        intro w2 hS2
        go_wp2_with fail
        go_meet
        exact ⟨congrArg Value.string (head_eq _ k D), hS2.1⟩
      case rest =>
        obtain ⟨rfl, hb2⟩ := hcut
        go_wp2_with fail
        have HB2 := Lib.hid hb2
        clear hb2
        go_loopw [3, 6] (fun t i wi => RelInner W1 (allText 0 (ds.take k) ++ headText k D) D.frm t i wi) (fun _ i _ => D.frm.length - (intOf i).toNat)
        case atStart => exact ⟨0, Nat.zero_le _, rfl, by simp [fromText], HB2.out⟩
        case round =>
          obtain ⟨j, hj, rfl, rfl, hb3⟩ := hrel
          have lj := fromText_len 0 (D.frm.take j) (fun z hz => HZ'.out z (List.mem_of_mem_take hz))
          have lj2 : (D.frm.take j).length ≤ 100 := by simp; omega
          have c7 : wr.cell? ⟨gB, 7, none⟩ = some (.slice fa D.frm.length fc) := (hb3.cell (p := ⟨gB, 7, none⟩) hz1).trans q7
          by_cases hjl : j < D.frm.length
          · obtain ⟨fb, fo, rfl, hfb, hcf⟩ := HI1.out (by omega)
            have hs1 := HB1.out.size
            have cz : wr.cell? ⟨fb, fo + j, none⟩ = some (.int .i64 (D.frm.getD j 0)) := (hb3.cell (p := ⟨fb, fo + j, none⟩) (by show fb < _; omega)).trans (hcf j hjl)
            have hzj : okI (D.frm.getD j 0) := HZ'.out _ (by rw [List.getD_eq_getElem?_getD, List.getElem?_eq_getElem hjl]; exact List.getElem_mem hjl)
            have HT : Hid (D.frm.take (j + 1) = D.frm.take j ++ [D.frm.getD j 0]) := by
              show _ = _
              rw [List.take_succ_eq_append_getElem hjl, List.getD_eq_getElem?_getD, List.getElem?_eq_getElem hjl]; rfl
            obtain ⟨hz0, hz1'⟩ := hzj
            have lz := Lib.itoa_length_le _ hz0 hz1'
            generalize D.frm.getD j 0 = z at *
            have HB3 := Lib.hid hb3
            clear hb3 hcf
            by_cases hj0 : j = 0
            · have hj1 : ((j : Int) == 0) = true := by simp; omega
              have HNE : Hid (0 + (D.frm.take j).length = 0) := by
                show _ = _
                rw [List.length_take]; omega
              clear hj0
              go_wp2_with (go_at_call 9; refine (number_c _ _ hz0 hz1').mono ?_; rintro e w' ⟨rfl, rfl⟩)
              go_roundw
              case rel =>
                refine ⟨j + 1, by omega, by go_num, ?_, HB3.out⟩
                rw [HT.out, fromText_snoc, if_pos HNE.out]
                simp [ba_append]
              case measure => simp [intOf]; omega
            · have hj1 : ((j : Int) == 0) = false := by simp; omega
              have HNE : Hid (¬ (0 + (D.frm.take j).length = 0)) := by
                show ¬ _
                rw [List.length_take]; omega
              go_wp2_with (go_at_call 9; refine (number_c _ _ hz0 hz1').mono ?_; rintro e w' ⟨rfl, rfl⟩)
              go_roundw
              case rel =>
                refine ⟨j + 1, by omega, by go_num, ?_, HB3.out⟩
                rw [HT.out, fromText_snoc, if_neg HNE.out]
                simp [ba_append]
              case measure => simp [intOf]; omega
          · have HB3 := Lib.hid hb3
            clear hb3
            have HT : Hid (D.frm.take j = D.frm) := List.take_of_length_le (by omega)
            go_wp2_with fail
            go_roundw
            case rel =>
              refine ⟨k + 1, by omega, by go_num, ?_, HB1.out.trans (HB3.out.mono (by have := HB1.out.size; omega))⟩
              rw [HSn.out _ rfl, HT.out]
              simp [ba_append, stepText]
            case measure => simp [intOf]; omega
    · have HB := Lib.hid hb
      clear hb
      have HT : Hid (ds.take k = ds) := List.take_of_length_le (by omega)
      go_wp2_with fail
      go_ret
      exact ⟨ret_str (by rw [HT.out]), HB.out⟩
#print axioms refText_any
end Go.Proofs.YtgnggmknbajmcaaDoor
