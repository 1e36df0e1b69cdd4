/-
  The law: DeriveDivides. The argument, opened; the row's last step. The argument, opened: steps of a derivation. The argument, opened: a list of steps.
-/
import Derived.Test.YthiackegnpnmbaaGreatQ50
import Derived.Test.YthiackegnpnmbaaGreatQ36
import Derived.Test.YthiackegnpnmbaaGreatQ23
import Derived.Test.YthiackegnpnmbaaGreatRows
import Derived.KernelRfl
import Derived.Deep.Slices
import Derived.ChangeSame
import Derived.ProofKit
import Derived.OpenShut
import Derived.Deep.DeepHandedRow
namespace Go.Proofs.YthiackegnpnmbaaGreat
open Go.RowKit Pln

def DvS (w W : World) : Prop := Below w.heap.size w W
set_option maxHeartbeats 8000000 in
set_option maxRecDepth 100000 in
theorem divides_c (h3 : ThreeOk) (ds : List StD) (A : Option Addr) (c : Nat) (i : Int) (zs : List Int) (Az : Option Addr) (cz : Nat) (w : World) (hA : StsAt w w.heap.size A ds) (hk : ∀ d ∈ ds, d.ok) (hl : ds.length ≤ maxLen)
    (hz : IntsAt w w.heap.size Az zs) (hzl : zs.length ≤ maxLen) :
    Calls Tryz.prog 3 #[.slice A ds.length c, .int .i64 i, .slice Az zs.length cz] w (LocPost w) := by
  have HA := Lib.hid hA
  have HK := Lib.hid hk
  have HZ := Lib.hid hz
  have hba : Below w.heap.size w (w.alloc (.cells #[.int .i64 14] 3)) := (Below.refl _ _).alloc (Nat.le_refl _) _
  have HL := Lib.hid (local_c h3 ds A c i zs Az cz w.heap.size 1 (w.alloc (.cells #[.int .i64 14] 3)) ((hA.keep hba).more' hba.size) hk hl ((hz.keep hba).more hba.size) hzl (by simp) (cell_of_row _ _ 0 _ _ _ (heap_alloc_new _ _)))
  have HBA := Lib.hid hba
  have eml : maxLen = 9223372036854775807 := rfl
  rw [eml] at hl hzl
  clear hA hk hz hba
  go_enter Tryz.func3, Tryz.ntmps3
  go_wp2_with fail
  refine HL.out.mono ?_
  rintro e w1 ⟨rfl, hb1⟩
  have HB1 := Lib.hid (HBA.out.trans (hb1.mono HBA.out.size))
  clear hb1 HL HBA
  have HF := Lib.hid (few_c ds A c w1 ((HA.out.keep HB1.out).more' HB1.out.size) HK.out hl)
  go_wp2_with fail
  (with_reducible refine HF.out.mono ?_)
  rintro e w2 ⟨b0, rfl, hb2, hl12⟩
  have HB2 := Lib.hid (HB1.out.trans (hb2.mono HB1.out.size))
  clear hb2 HF HB1
  clear w1
  cases b0
  · go_wp2_with fail
    go_ret
    exact ⟨rfl, HB2.out⟩
  replace hl12 := hl12 rfl
  by_cases i0 : i < 0
  · go_wp2_with fail
    go_ret
    exact ⟨rfl, HB2.out⟩
  by_cases i1 : (ds.length : Int) ≤ i
  · go_wp2_with fail
    go_ret
    exact ⟨rfl, HB2.out⟩
  obtain ⟨k, rfl⟩ : ∃ k : Nat, i = k := ⟨i.toNat, by omega⟩
  have hlt : k < ds.length := by omega
  have k0 : (0 : Int) ≤ (k : Int) := by omega
  have k1 : (k : Int) < (ds.length : Int) := by omega
  obtain ⟨b, o, csl, rfl, hbl, hrg, hst⟩ := HA.out.at_ hlt
  have hso : (ds[k]'hlt).ok := HK.out _ (List.getElem_mem hlt)
  have hsi : ds[k]? = some (ds[k]'hlt) := List.getElem?_eq_getElem hlt
  have HCS : Hid ((ds[k]'hlt).rule = 14 → ∀ W : World, Below w.heap.size w W → Calls Tryz.prog 6 #[.slice (some ⟨b, o, none⟩) ds.length c, .int .i64 k] W (StepPost W ds k)) := fun hr W hW =>
    checkstep_d ds _ c k W ((HA.out.keep hW).more' hW.size) HK.out (by omega) hlt hr
  generalize ds[k]'hlt = s at *
  obtain ⟨Am, Ag, Af, Aa, Ab, Ap, Aq, Ar, As, At, cm, cg, cf, ca, cb, cp, cq, cr, cs', ct, rfl, hcg, h1, h2, h3', h4, h5⟩ := hst
  have HM := Lib.hid h1
  have HG := Lib.hid h2
  have HAT := Lib.hid h4
  have HRB := Lib.hid hrg
  obtain ⟨s1, s2, _⟩ := hso
  rw [eml] at s1 s2
  have HSI := Lib.hid hsi
  have HCELL : Hid (∀ (W : World) (n : Nat) (v : Value), Below w.heap.size w W → (stCells s Am Ag Af Aa Ab Ap Aq Ar As At cm cg cf ca cb cp cq cr cs' ct)[n]? = some v → W.cell? ⟨b, o + k * 23 + n, none⟩ = some v) := fun W n v hW hv => (hW.cell (p := ⟨b, o + k * 23 + n, none⟩) hbl).trans (HRB.out n v hv)
  clear hcg h1 h2 h3' h4 h5 hrg hsi
  have y0 : w2.cell? ⟨b, o + k * 23, none⟩ = some (.int .i64 s.rule) := HCELL.out w2 0 _ HB2.out rfl
  have y8 : w2.cell? ⟨b, o + k * 23 + 8, none⟩ = some (.slice Aa s.at_.length ca) := HCELL.out w2 8 _ HB2.out rfl
  by_cases h14 : s.rule = 14
  rotate_left
  · have r14 : (s.rule != 14) = true := bne_iff_ne.2 h14
    go_wp2_with fail
    go_ret
    exact ⟨rfl, HB2.out⟩
  have r14 : (s.rule != 14) = false := by rw [h14]; rfl
  by_cases hat : s.at_.length = 1
  rotate_left
  · have ra : ((s.at_.length : Int) != 1) = true := by rw [bne_iff_ne]; omega
    go_wp2_with fail
    go_ret
    exact ⟨rfl, HB2.out⟩
  rw [hat] at y8
  obtain ⟨ba, oa, rfl, hba, hca⟩ := HAT.out.at_ (k := 0) (by omega)
  have HCA : Hid (∀ W, Below w.heap.size w W → W.cell? ⟨ba, oa, none⟩ = some (.int .i64 (s.at_.getD 0 0))) := fun W hW => (hW.cell (p := ⟨ba, oa, none⟩) hba).trans hca
  obtain ⟨a0, HA0⟩ : ∃ a0, Hid (s.at_.getD 0 0 = a0) := ⟨_, rfl⟩
  rw [HA0.out] at HCA
  have ya := HCA.out w2 HB2.out
  by_cases ha1 : a0 < 1
  · go_wp2_with fail
    go_ret
    exact ⟨rfl, HB2.out⟩
  have HC1 := Lib.hid (HCS.out h14 w2 HB2.out)
  clear HCS
  go_wp2_with fail
  refine HC1.out.mono ?_
  rintro e w4 ⟨z, rfl, hb4, hok⟩
  have HB4 := Lib.hid (HB2.out.trans (hb4.mono HB2.out.size))
  clear hb4 HC1 y0 y8 ya
  by_cases hz0 : z = 0
  rotate_left
  · have hz1 : (z != 0) = true := bne_iff_ne.2 hz0
    clear hok
    go_wp2_with fail
    go_ret
    exact ⟨rfl, HB4.out⟩
  subst hz0
  obtain ⟨s', p, j, hs', hjk, hpj, hfj, hal, fs, fp, hdiv⟩ := hok rfl
  rw [HSI.out] at hs'
  obtain rfl : s = s' := by injection hs'
  have hcz := form_code fs
  have HRC : Hid (∀ W, DvS w W → W.rangeAt b (o + k * 23 + 1) [.int .i64 s.p, .int .i64 s.m, .slice Am s.mod.length cm, .int .i64 s.n, .slice Ag s.gen.length cg]) := fun W hW j v hv => by
    have hj5 : j < 5 := by have := (List.getElem?_eq_some_iff.1 hv).1; simpa using this
    have h := HCELL.out W (1 + j) v hW (by
      match j, hj5 with
      | 0, _ => exact hv
      | 1, _ => exact hv
      | 2, _ => exact hv
      | 3, _ => exact hv
      | 4, _ => exact hv)
    rw [← Nat.add_assoc] at h
    exact h
  have HCK : Hid (Calls Tryz.prog 7 #[.agg #[.int .i64 s.p, .int .i64 s.m, .slice Am s.mod.length cm, .int .i64 s.n, .slice Ag s.gen.length cg]] w4 fun e w' => e = .returned (.int .i64 0) ∧ Below w4.heap.size w4 w') := by
    have h := rcodecheck_c s.p s.m s.mod Am cm s.n s.gen Ag cg w4 ((HM.out.keep HB4.out).more HB4.out.size) s1 ((HG.out.keep HB4.out).more HB4.out.size) s2
    rw [hcz] at h
    exact h
  have HOF : Hid (∀ W : World, DvS w W → Calls Tryz.prog 9 #[.agg #[.int .i64 s.p, .int .i64 s.m, .slice Am s.mod.length cm, .int .i64 s.n, .slice Ag s.gen.length cg], .slice Az zs.length cz] W fun e w' => (∃ (g : Nat) (msg : List Nat), e = .returned (.slice (some ⟨g, 0, none⟩) s.n.toNat s.n.toNat) ∧ msg.length = (natR s.gen).length ∧ (∀ x ∈ msg, x < s.p.toNat ^ s.m.toNat) ∧ Row w' W.heap.size g s.n.toNat (nz (cwO s.p.toNat s.m.toNat (mdOf s.m s.mod) s.n.toNat (natR s.gen) msg)) ∧ (cwO s.p.toNat s.m.toNat (mdOf s.m s.mod) s.n.toNat (natR s.gen) msg).length = s.n.toNat) ∧ Below W.heap.size W w') := fun W hW => by
    obtain ⟨hrc, e1, e2, e3, e4⟩ := code_nat hcz ((HM.out.keep hW).more (Below.size hW)) ((HG.out.keep hW).more (Below.size hW))
    have := rof_c hrc cm cg zs Az cz ((HZ.out.keep hW).more (Below.size hW)) hzl
    rw [e1, e2, e3, e4] at this
    rw [e4]
    exact this
  have hn64 := (code_form hcz).2.2.1
  have HFS := Lib.hid fs
  have HFP := Lib.hid fp
  have HDV := Lib.hid hdiv
  have z0 : w4.cell? ⟨b, o + k * 23 + 1, none⟩ = some (.int .i64 s.p) := HRC.out w4 HB4.out 0 _ rfl
  have z1 : w4.cell? ⟨b, o + k * 23 + 1 + 1, none⟩ = some (.int .i64 s.m) := HRC.out w4 HB4.out 1 _ rfl
  have z2 : w4.cell? ⟨b, o + k * 23 + 1 + 2, none⟩ = some (.slice Am s.mod.length cm) := HRC.out w4 HB4.out 2 _ rfl
  have z3 : w4.cell? ⟨b, o + k * 23 + 1 + 3, none⟩ = some (.int .i64 s.n) := HRC.out w4 HB4.out 3 _ rfl
  have z4 : w4.cell? ⟨b, o + k * 23 + 1 + 4, none⟩ = some (.slice Ag s.gen.length cg) := HRC.out w4 HB4.out 4 _ rfl
  clear hs' hjk hpj hfj hal fs fp hdiv hcz
  go_wp2_with fail
  (with_reducible refine HCK.out.mono ?_)
  rintro e w5 ⟨rfl, hb5⟩
  have HB5 := Lib.hid (HB4.out.trans (hb5.mono HB4.out.size))
  clear hb5 HCK z0 z1 z2 z3 z4
  go_upto_region 5 with fail
  have HSD : Hid (DvS w w5.drew) := HB5.out.drew
  refine wp_region_mixf 15 15 (DvS w) [(1, 0), (1, 1), (1, 2), (1, 3), (0, 4), (1, 5), (1, 8), (1, 9), (1, 10), (1, 11), (0, 12), (1, 13), (0, 14), (2, 6), (2, 7)] default (by kernel_rfl) (by kernel_rfl) (fun _ _ d _ _ h => by cases d <;> exact h) HSD.out ?_
  have HO1 := Lib.hid (HOF.out w5.drew HSD.out)
  generalize w5.drew = Wd at *
  simp only [List.map_cons, List.map_nil, List.getD_cons_zero, List.getD_cons_succ]
  iterate 4
    apply mixf_free rfl
    · intro V
      go_simp
      rfl
    go_simp
  refine mixf_load_mid rfl 30 (.tmp 71) rfl b (o + k * 23 + 1) rfl [.int .i64 s.p, .int .i64 s.m, .slice Am s.mod.length cm, .int .i64 s.n, .slice Ag s.gen.length cg] _ HRC.out Tryz.underlying30 rfl codeSize ?_
  go_simp
  iterate 5
    apply mixf_free rfl
    · intro V
      go_simp
      rfl
    go_simp
  apply mixf_val rfl
  · intro V hV
    have y : V.cell? ⟨b, o + k * 23 + 8, none⟩ = some (.slice (some ⟨ba, oa, none⟩) 1 ca) := by rw [← hat]; exact HCELL.out V 8 _ hV rfl
    go_simp
    rfl
  go_simp
  iterate 1
    apply mixf_free rfl
    · intro V
      go_simp
      rfl
    go_simp
  apply mixf_val rfl
  · intro V hV
    have y := HCA.out V hV
    go_simp
    rfl
  go_simp
  apply mixf_call rfl
  · go_simp
    exact ⟨rfl, rfl⟩
  with_reducible refine HO1.out.mono ?_
  rintro e w6 ⟨⟨g, msg, rfl, hml, hmq, hrow, hwl⟩, hb6⟩
  have HS6 : Hid (DvS w w6) := Below.trans HSD.out (hb6.mono (Below.size HSD.out))
  refine ⟨_, rfl, HS6.out, ?_⟩
  go_simp
  obtain ⟨m', hat', hm0, hwm, _⟩ := divides_law HFS.out HFP.out HDV.out hml hmq
  have ham : a0 = (m' : Int) := by
    rw [← HA0.out, hat']
    rfl
  have hwlt : Dv.wt (cwO s.p.toNat s.m.toNat (mdOf s.m s.mod) s.n.toNat (natR s.gen) msg) ≤ s.n.toNat := by
    have := rwt_le (cwO s.p.toNat s.m.toNat (mdOf s.m s.mod) s.n.toNat (natR s.gen) msg)
    rw [hwl] at this
    exact this
  have HW6 := Lib.hid (weight_c (cwO s.p.toNat s.m.toNat (mdOf s.m s.mod) s.n.toNat (natR s.gen) msg) (some ⟨g, 0, none⟩) s.n.toNat w6 (row_ints hrow) (by omega))
  rw [hwl] at HW6
  clear hb6 hml hmq hrow hwl HO1 hat'
  generalize Dv.wt (cwO s.p.toNat s.m.toNat (mdOf s.m s.mod) s.n.toNat (natR s.gen) msg) = wt at *
  apply mixf_call rfl
  · go_simp
    exact ⟨rfl, rfl⟩
  with_reducible refine HW6.out.mono ?_
  rintro e w7 ⟨rfl, rfl⟩
  refine ⟨_, rfl, HS6.out, ?_⟩
  go_simp
  refine mixf_nil ?_
  show wpList _ _ _ _ _ _
  have hmz : (a0 == 0) = false := beq_false_of_ne (by omega)
  have hmz1 : ¬ a0 = 0 := by omega
  have hrem : Int.tmod (wt : Int) a0 = 0 := by rw [ham, tmod_nat, hwm]; rfl
  clear HW6 HSD
  have hemb : (((wt : Int) % (m' : Int)) == 0) = true := by
    have e : ((wt % m' : Nat) : Int) = (wt : Int) % (m' : Int) := rfl
    rw [← e, hwm]
    rfl
  go_wp2_with fail
  go_ret
  exact ⟨rfl, HS6.out⟩
end Go.Proofs.YthiackegnpnmbaaGreat

namespace Go.Proofs.YthiackegnpnmbaaGreat
open Go.RowKit Go.ChangeShapes Go.WideShapes Go.Deep Go.ChangeAt

section
variable {H : Type} {enc : TypeId × Value → H} {P : Program}
/-- The row's last step where of the world behind the call 'Below' alone is known. -/
theorem post_of_below {f : Func} {s : ChangeSpec} {apart fresh handsOn again : Bool} {W W' : World} {args : Array Value} {v : Value} {ds gs : List (DataW H)} {before pa pv : List MemPlace}
    (hW : DataW.Whole enc P f.params.toList s.vars apart W args.toList ds gs before)
    (hres : ∀ (b : Nat) (sp : Nat → Bool) (hd : Bool), DataW.TrodAll enc P W' b sp hd f.resultTypes.toList (v.resultList f.resultTypes.size) (s.fn H (ds ++ gs)).results [])
    (hargs : ∀ sp : Nat → Bool, (∀ p ∈ before, sp p.block = true) → DataW.TrodAll enc P W' 0 sp true f.params.toList args.toList (s.fn H (ds ++ gs)).args pa)
    (hvars : ∀ sp : Nat → Bool, (∀ p ∈ before, sp p.block = true) → DataW.TrodVars enc P W' sp s.vars (s.fn H (ds ++ gs)).vars pv)
    (hps : before = pa ++ pv) (hb : Below W.heap.size W W')
    (hok : ∀ (j : Nat) (t : TypeId) (r : Value), f.resultTypes[j]? = some t → (v.resultList f.resultTypes.size)[j]? = some r → Value.okWide P W' .any 0 t r) :
    s.post enc P f apart fresh handsOn again W args v W' := by
  have hlt : ∀ p ∈ before, p.block < W.heap.size := fun p hp => hW.lt p hp
  have hold : ∀ p ∈ before, (fun b => decide (b < W.heap.size)) p.block = true := fun p hp => by simpa using hlt p hp
  refine ⟨ds, gs, before, [], pa, pv, hW, hres _ _ _, hargs _ hold, hvars _ hold, World.keptBut_mono (fun p hp => ⟨hp, ?_⟩) (hb.frame (· ∈ before)), fun _ => ?_⟩
  · rw [hps, List.mem_append] at hp
    exact Or.inr hp
  · obtain ⟨_, _, _, _, _, hz, hn⟩ := hW
    refine ⟨hok, _, _, ([] ++ pa) ++ pv, ⟨[] ++ pa, pv, trodAll_append (hargs _ (fun _ _ => rfl)) (hres _ _ _), hvars _ (fun _ _ => rfl), rfl, ?_, ?_⟩, ?_⟩
    · intro b off hp
      have hin : MemPlace.cell b off ∈ before := by rw [hps]; simpa using hp
      rw [hb.frozen (hlt _ hin)]
      exact hz b off hin
    · intro ha
      have := hn ha
      rw [hps] at this
      simpa using this
    · intro p hp _
      rw [hps]
      simpa using hp
end

theorem own : ownKnob Tryz.prog.godebug = none := by kernel_rfl
theorem laidOut : laidOutB Tryz.prog = true := by kernel_rfl
section
variable {H : Type} {enc : TypeId × Value → H} {w : World} {base : Nat} {spare : Nat → Bool} {held : Bool}

theorem cellsInt : Tryz.prog.cellsOf 3 = 1 := by kernel_rfl
theorem cellsInts : Tryz.prog.cellsOf 23 = 1 := by kernel_rfl
theorem cellsRows : Tryz.prog.cellsOf 28 = 1 := by kernel_rfl
theorem cellsField : Tryz.prog.cellsOf 27 = 3 := by kernel_rfl
theorem spot_none {a : Addr} {v : Value} (h : w.cell? a = some v) : a = ⟨a.block, a.off, none⟩ := by
  obtain ⟨b, o, s⟩ := a
  cases s with
  | none => rfl
  | some s =>
    unfold World.cell? at h
    split at h <;> simp at h
theorem int_cell {fuel : Nat} {c : Value} {x : DataW H × List MemPlace} (h : DataW.trod enc Tryz.prog w base spare held fuel 3 [c] = some x) : ∃ n, c = .int .i64 n := by
  obtain ⟨n, h1, _, _⟩ := DataW.trod_int Tryz.underlying3 h
  exact ⟨n, by simpa using h1⟩
theorem ints_cell {fuel : Nat} {c : Value} {x : DataW H × List MemPlace} (h : DataW.trod enc Tryz.prog w base spare held fuel 23 [c] = some x) :
    ∃ (zs : List Int) (A : Option Addr) (k : Nat), c = .slice A zs.length k ∧ zs.length ≤ maxLen ∧ IntsAt w w.heap.size A zs := by
  rcases open_slice1 Tryz.underlying23 cellsInt h with ⟨h0, _⟩ | ⟨a, len, cap, m, n, V, D, Pl, hcs, _, hl, hm, hmm, _, hx⟩
  · exact ⟨[], none, 0, by simpa using h0, by simp, fun h => absurd h (by simp)⟩
  · have hlm : len ≤ m := by rw [hmm]; split <;> omega
    have hV : ∀ i, i < len → ∃ z, V i = .int .i64 z := fun i hi => int_cell (hx i (by omega)).2
    refine ⟨(List.range len).map fun i => intOf (V i), some a, cap, by simpa using hcs, by simp; omega, fun hz => ?_⟩
    simp only [List.length_map, List.length_range] at hz ⊢
    have h0 := (hx 0 (by omega)).1
    have ha : a.add 0 = a := rfl
    rw [ha] at h0
    refine ⟨a.block, a.off, congrArg some (spot_none h0), World.block_lt_of_cell? w _ h0, fun j hj => ?_⟩
    have hj' := (hx j (by omega)).1
    obtain ⟨z, e⟩ := hV j hj
    have hadd : a.add j = ⟨a.block, a.off + j, none⟩ := by rw [spot_none h0]; exact Addr.add_mid _ _ _
    rw [hadd] at hj'
    rw [hj', e]
    simp [List.getD, hj, e, intOf]
theorem rows_cell {fuel : Nat} {c : Value} {x : DataW H × List MemPlace} (h : DataW.trod enc Tryz.prog w base spare held fuel 28 [c] = some x) :
    ∃ (zs : List (List Int)) (A : Option Addr) (k : Nat), c = .slice A zs.length k ∧ zs.length ≤ maxLen ∧ zs.length ≤ k ∧ RowsAt w w.heap.size A zs := by
  rcases open_slice1 Tryz.underlying28 cellsInts h with ⟨h0, _⟩ | ⟨a, len, cap, m, n, V, D, Pl, hcs, _, hl, hm, hmm, _, hx⟩
  · exact ⟨[], none, 0, by simpa using h0, by simp, by simp, fun h => absurd h (by simp)⟩
  · have hlm : len ≤ m := by rw [hmm]; split <;> omega
    have key : ∀ i, i < len → ∃ (zs : List Int) (A : Option Addr) (k : Nat), V i = .slice A zs.length k ∧ zs.length ≤ maxLen ∧ IntsAt w w.heap.size A zs := fun i hi => ints_cell (hx i (by omega)).2
    obtain ⟨f, hf⟩ : ∃ f : Nat → List Int, ∀ i, i < len → ∃ (A : Option Addr) (k : Nat), V i = .slice A (f i).length k ∧ (f i).length ≤ maxLen ∧ IntsAt w w.heap.size A (f i) :=
      ⟨fun i => if h : i < len then Classical.choose (key i h) else [], fun i hi => by simp only [hi, dif_pos]; exact Classical.choose_spec (key i hi)⟩
    refine ⟨(List.range len).map f, some a, cap, by simpa using hcs, by simp; omega, by simp; omega, fun hz => ?_⟩
    simp only [List.length_map, List.length_range] at hz ⊢
    have h0 := (hx 0 (by omega)).1
    have ha : a.add 0 = a := rfl
    rw [ha] at h0
    refine ⟨a.block, a.off, congrArg some (spot_none h0), World.block_lt_of_cell? w _ h0, fun j hj => ?_⟩
    have hj' := (hx j (by omega)).1
    obtain ⟨Aj, kj, e, _, hi⟩ := hf j hj
    have hadd : a.add j = ⟨a.block, a.off + j, none⟩ := by rw [spot_none h0]; exact Addr.add_mid _ _ _
    rw [hadd] at hj'
    have hg : ((List.range len).map f).getD j [] = f j := by simp [List.getD, hj]
    rw [hg]
    exact ⟨Aj, kj, by rw [hj', e], hi⟩
theorem field_of {fuel : Nat} {t : TypeId} {fs : Array Field} {cs : List Value} {x : DataW H × List MemPlace} (ht : Tryz.prog.underlying t = some (.struct fs)) (h : DataW.trod enc Tryz.prog w base spare held fuel t cs = some x) (i : Nat) (t' : TypeId) (off k : Nat) (hf : (fs[i]?).map (fun f => (f.type, f.offset)) = some (t', off)) (hk : Tryz.prog.cellsOf t' = k) :
    ∃ n y, n < fuel ∧ DataW.trod enc Tryz.prog w base spare held n t' ((cs.drop off).take k) = some y := by
  obtain ⟨xs, n, hn, _, _, hlen, hg⟩ := DataW.trod_struct ht h
  obtain ⟨f, hff, he⟩ := Option.map_eq_some_iff.1 hf
  have hi : i < fs.size := (Array.getElem?_eq_some_iff.1 hff).1
  simp only [Prod.mk.injEq] at he
  obtain ⟨rfl, rfl⟩ := he
  subst hk
  exact ⟨n, xs[i]'(by omega), by omega, by rw [hg i f hff, List.getElem?_eq_getElem]⟩
end
end Go.Proofs.YthiackegnpnmbaaGreat

namespace Go.Proofs.YthiackegnpnmbaaGreat
open Go.RowKit Go.ChangeShapes Go.WideShapes Go.Deep
section
variable {H : Type} {enc : TypeId × Value → H} {w : World} {base : Nat} {spare : Nat → Bool} {held : Bool}

theorem cellsCode : Tryz.prog.cellsOf 30 = 5 := by kernel_rfl
theorem cellsRun : Tryz.prog.cellsOf 32 = 5 := by kernel_rfl
theorem cellsMono : Tryz.prog.cellsOf 34 = 3 := by kernel_rfl
theorem cellsExcl : Tryz.prog.cellsOf 36 = 1 := by kernel_rfl
theorem cellsStep : Tryz.prog.cellsOf 38 = 23 := by kernel_rfl
theorem slice_cell {fuel : Nat} {t e : TypeId} {c : Value} {x : DataW H × List MemPlace} (ht : Tryz.prog.underlying t = some (.slice e)) (h : DataW.trod enc Tryz.prog w base spare held fuel t [c] = some x) :
    ∃ (A : Option Addr) (n k : Nat), c = .slice A n k ∧ n ≤ maxLen := by
  rcases DataW.trod_slice ht h with ⟨h0, _⟩ | ⟨a, len, cap, _, _, _, _, hcs, _, _, hl, hm, _⟩
  · exact ⟨none, 0, 0, by simpa using h0, by simp⟩
  · exact ⟨some a, len, cap, by simpa using hcs, by omega⟩
theorem field_cells {fuel : Nat} {a b c : Value} {x : DataW H × List MemPlace} (h : DataW.trod enc Tryz.prog w base spare held fuel 27 [a, b, c] = some x) :
    ∃ (p m : Int) (zs : List Int) (A : Option Addr) (k : Nat), a = .int .i64 p ∧ b = .int .i64 m ∧ c = .slice A zs.length k ∧ zs.length ≤ maxLen ∧ IntsAt w w.heap.size A zs := by
  obtain ⟨_, _, _, h0⟩ := field_of Tryz.underlying27 h 0 3 0 1 rfl cellsInt
  obtain ⟨_, _, _, h1⟩ := field_of Tryz.underlying27 h 1 3 1 1 rfl cellsInt
  obtain ⟨_, _, _, h2⟩ := field_of Tryz.underlying27 h 2 23 2 1 rfl cellsInts
  obtain ⟨p, e0⟩ := int_cell h0
  obtain ⟨m, e1⟩ := int_cell h1
  obtain ⟨zs, A, k, e2, hl, hi⟩ := ints_cell h2
  exact ⟨p, m, zs, A, k, e0, e1, e2, hl, hi⟩
theorem step_cells {fuel : Nat} {cs : List Value} {x : DataW H × List MemPlace} (hl : cs.length = 23) (h : DataW.trod enc Tryz.prog w base spare held fuel 38 cs = some x) :
    ∃ d : StD, StC w w.heap.size d cs ∧ d.ok := by
  match cs, hl with
  | [c0, c1, c2, c3, c4, c5, c6, c7, c8, c9, c10, c11, c12, c13, c14, c15, c16, c17, c18, c19, c20, c21, c22], _ =>
    obtain ⟨_, _, _, h0⟩ := field_of Tryz.underlying38 h 0 3 0 1 rfl cellsInt
    obtain ⟨_, _, _, h1⟩ := field_of Tryz.underlying38 h 1 30 1 5 rfl cellsCode
    obtain ⟨_, _, _, h2⟩ := field_of Tryz.underlying38 h 2 3 6 1 rfl cellsInt
    obtain ⟨_, _, _, h3⟩ := field_of Tryz.underlying38 h 3 23 7 1 rfl cellsInts
    obtain ⟨_, _, _, h4⟩ := field_of Tryz.underlying38 h 4 23 8 1 rfl cellsInts
    obtain ⟨_, _, _, h5⟩ := field_of Tryz.underlying38 h 5 27 9 3 rfl cellsField
    obtain ⟨_, _, _, h6⟩ := field_of Tryz.underlying38 h 6 32 12 5 rfl cellsRun
    obtain ⟨_, _, _, h7⟩ := field_of Tryz.underlying38 h 7 23 17 1 rfl cellsInts
    obtain ⟨_, _, _, h8⟩ := field_of Tryz.underlying38 h 8 23 18 1 rfl cellsInts
    obtain ⟨_, _, _, h9⟩ := field_of Tryz.underlying38 h 9 34 19 3 rfl cellsMono
    obtain ⟨_, _, _, h10⟩ := field_of Tryz.underlying38 h 10 36 22 1 rfl cellsExcl
    obtain ⟨rule, rfl⟩ := int_cell h0
    obtain ⟨_, _, _, f0⟩ := field_of Tryz.underlying30 h1 0 27 0 3 rfl cellsField
    obtain ⟨_, _, _, f1⟩ := field_of Tryz.underlying30 h1 1 3 3 1 rfl cellsInt
    obtain ⟨_, _, _, f2⟩ := field_of Tryz.underlying30 h1 2 28 4 1 rfl cellsRows
    obtain ⟨p, m, mod, Am, cm, rfl, rfl, rfl, l3, i3⟩ := field_cells f0
    obtain ⟨n, rfl⟩ := int_cell f1
    obtain ⟨gen, Ag, cg, rfl, l5, lc5, i5⟩ := rows_cell f2
    obtain ⟨low, rfl⟩ := int_cell h2
    obtain ⟨frm, Af, cf, rfl, l7, i7⟩ := ints_cell h3
    obtain ⟨at_, Aa, ca, rfl, l8, i8⟩ := ints_cell h4
    obtain ⟨bp, bm, bmod, Ab, cb, rfl, rfl, rfl, l11, i11⟩ := field_cells h5
    obtain ⟨_, _, _, r0⟩ := field_of Tryz.underlying32 h6 0 3 0 1 rfl cellsInt
    obtain ⟨_, _, _, r1⟩ := field_of Tryz.underlying32 h6 1 3 1 1 rfl cellsInt
    obtain ⟨_, _, _, r2⟩ := field_of Tryz.underlying32 h6 2 3 2 1 rfl cellsInt
    obtain ⟨_, _, _, r3⟩ := field_of Tryz.underlying32 h6 3 3 3 1 rfl cellsInt
    obtain ⟨_, _, _, r4⟩ := field_of Tryz.underlying32 h6 4 3 4 1 rfl cellsInt
    obtain ⟨z0, rfl⟩ := int_cell r0
    obtain ⟨z1, rfl⟩ := int_cell r1
    obtain ⟨z2, rfl⟩ := int_cell r2
    obtain ⟨z3, rfl⟩ := int_cell r3
    obtain ⟨z4, rfl⟩ := int_cell r4
    obtain ⟨Ap, np, cp, rfl, lp⟩ := slice_cell Tryz.underlying23 h7
    obtain ⟨Aq, nq, cq, rfl, lq⟩ := slice_cell Tryz.underlying23 h8
    obtain ⟨_, _, _, m0⟩ := field_of Tryz.underlying34 h9 0 23 0 1 rfl cellsInts
    obtain ⟨_, _, _, m1⟩ := field_of Tryz.underlying34 h9 1 23 1 1 rfl cellsInts
    obtain ⟨_, _, _, m2⟩ := field_of Tryz.underlying34 h9 2 3 2 1 rfl cellsInt
    obtain ⟨Ar, nr, cr, rfl, lr⟩ := slice_cell Tryz.underlying23 m0
    obtain ⟨As, ns, cs', rfl, ls⟩ := slice_cell Tryz.underlying23 m1
    obtain ⟨z5, rfl⟩ := int_cell m2
    obtain ⟨_, _, _, t0⟩ := field_of Tryz.underlying36 h10 0 28 0 1 rfl cellsRows
    obtain ⟨sets, At, ct, rfl, lt, _, it⟩ := rows_cell t0
    exact ⟨⟨rule, p, m, mod, n, gen, low, frm, at_, bp, bm, bmod.length, z0, z1, z2, z3, z4, np, nq, nr, ns, z5, sets⟩,
      ⟨Am, Ag, Af, Aa, Ab, Ap, Aq, Ar, As, At, cm, cg, cf, ca, cb, cp, cq, cr, cs', ct, rfl, lc5, i3, i5, i7, i8, it⟩, l3, l5, l7, l8, l11, lp, lq, lr, ls, lt⟩
end
end Go.Proofs.YthiackegnpnmbaaGreat

namespace Go.Proofs.YthiackegnpnmbaaGreat
open Go.RowKit Go.ChangeShapes Go.WideShapes Go.Deep
section
variable {H : Type} {enc : TypeId × Value → H} {w : World} {base : Nat} {spare : Nat → Bool} {held : Bool}

theorem add_of_add (a : Addr) (i j : Nat) : (a.add i).add j = a.add (i + j) := by
  unfold Addr.add
  by_cases hi : i = 0 <;> by_cases hj : j = 0 <;> simp [hi, hj, Nat.add_assoc]
theorem steps_open {v : Value} {d : DataW H} {p : List MemPlace} (h : DataW.Trod enc Tryz.prog w base spare held 22 v d p) (hv : v.cells = #[v]) :
    ∃ (A : Option Addr) (ds : List StD) (k : Nat), v = .slice A ds.length k ∧ ds.length ≤ maxLen ∧ StsAt w w.heap.size A ds ∧ ∀ d ∈ ds, d.ok := by
  obtain ⟨fuel, hf⟩ := h
  rw [hv] at hf
  rcases open_slice Tryz.underlying22 hf with ⟨h0, _⟩ | ⟨a, len, cap, m, n, D, Pl, hcs, _, hl, hm, hmm, _, hx⟩
  · exact ⟨none, [], 0, by simpa using h0, by simp, fun h => absurd h (by simp), by simp⟩
  · have hlm : len ≤ m := by rw [hmm]; split <;> omega
    rw [cellsStep] at hx
    by_cases h0 : len = 0
    · subst h0
      exact ⟨some a, [], cap, by simpa using hcs, by simp, fun h => absurd h (by simp), by simp⟩
    · obtain ⟨c0, g0, _⟩ := hx 0 (by omega)
      obtain ⟨_, l0, q0⟩ := World.cells?_some g0
      have hc0 := q0 0 (by omega)
      rw [List.getElem?_eq_getElem (by omega)] at hc0
      have ha : (a.add (0 * 23)).add 0 = a := rfl
      rw [ha] at hc0
      have hlt := World.block_lt_of_cell? w _ hc0
      have hsp := spot_none hc0
      have hadd : ∀ j, a.add j = ⟨a.block, a.off + j, none⟩ := fun j => by rw [hsp]; exact Addr.add_mid _ _ _
      have key : ∀ i, i < len → ∃ (d : StD) (cs : List Value), w.rangeAt a.block (a.off + i * 23) cs ∧ StC w w.heap.size d cs ∧ d.ok := fun i hi => by
        obtain ⟨cs, g, ht⟩ := hx i (by omega)
        obtain ⟨_, hlen, q⟩ := World.cells?_some g
        obtain ⟨d, hd, hok⟩ := step_cells hlen ht
        refine ⟨d, cs, fun j u hu => ?_, hd, hok⟩
        have hj : j < 23 := by rw [← hlen]; exact (List.getElem?_eq_some_iff.1 hu).1
        have := q j hj
        rw [hu, add_of_add, hadd] at this
        rw [← this, Nat.add_assoc]
      obtain ⟨f, hf⟩ : ∃ f : Nat → StD, ∀ i, i < len → ∃ cs : List Value, w.rangeAt a.block (a.off + i * 23) cs ∧ StC w w.heap.size (f i) cs ∧ (f i).ok :=
        ⟨fun i => if h : i < len then Classical.choose (key i h) else ⟨0, 0, 0, [], 0, [], 0, [], [], 0, 0, 0, 0, 0, 0, 0, 0, 0, 0, 0, 0, 0, []⟩, fun i hi => by simp only [hi, dif_pos]; exact Classical.choose_spec (key i hi)⟩
      refine ⟨some a, (List.range len).map f, cap, by simpa using hcs, by simp; omega, fun _ => ⟨a.block, a.off, congrArg some hsp, hlt, fun i d hd => ?_⟩, fun d hd => ?_⟩
      · have hi : i < len := by have := (List.getElem?_eq_some_iff.1 hd).1; simpa using this
        have : d = f i := by simpa [hi] using hd.symm
        rw [this]
        obtain ⟨cs, h1, h2, _⟩ := hf i hi
        exact ⟨cs, h1, h2⟩
      · obtain ⟨i, hi, rfl⟩ := List.mem_map.1 hd
        obtain ⟨cs, _, _, h3⟩ := hf i (List.mem_range.1 hi)
        exact h3
end
end Go.Proofs.YthiackegnpnmbaaGreat

