/-
  The argument, opened; the row's last step.
-/
import Derived.Test.YtcfejnnhcdlffaaGreatRows
import Derived.Test.YtcfejnnhcdlffaaGreatRuM
import Derived.KernelRfl
import Derived.Deep.Slices
import Derived.ChangeSame
import Derived.ProofKit
import Derived.OpenShut
import Derived.Deep.DeepHandedRow
namespace Go.Proofs.YtcfejnnhcdlffaaGreat
open Go.RowKit Go.ChangeShapes Go.WideShapes Go.Deep Go.ChangeAt

section
variable {H : Type} {enc : TypeId × Value → H} {P : Program}
/-- The row's last step where of the world behind the call 'Below' alone is known. -/
theorem post_of_below {f : Func} {s : ChangeSpec} {apart fresh handsOn again : Bool} {W W' : World} {args : Array Value} {v : Value} {ds gs : List (DataW H)} {before pa pv : List MemPlace}
    (hW : DataW.Whole enc P f.params.toList s.vars apart W args.toList ds gs before)
    (hres : ∀ (b : Nat) (sp : Nat → Bool) (hd : Bool), DataW.TrodAll enc P W' b sp hd f.resultTypes.toList (v.resultList f.resultTypes.size) (s.fn H (ds ++ gs)).results [])
    (hargs : ∀ sp : Nat → Bool, (∀ p ∈ before, sp p.block = true) → DataW.TrodAll enc P W' 0 sp true f.params.toList args.toList (s.fn H (ds ++ gs)).args pa)
    (hvars : ∀ sp : Nat → Bool, (∀ p ∈ before, sp p.block = true) → DataW.TrodVars enc P W' sp s.vars (s.fn H (ds ++ gs)).vars pv)
    (hps : before = pa ++ pv) (hb : Below W.heap.size W W')
    (hok : ∀ (j : Nat) (t : TypeId) (r : Value), f.resultTypes[j]? = some t → (v.resultList f.resultTypes.size)[j]? = some r → Value.okWide P W' .any 0 t r) :
    s.post enc P f apart fresh handsOn again W args v W' := by
  have hlt : ∀ p ∈ before, p.block < W.heap.size := fun p hp => hW.lt p hp
  have hold : ∀ p ∈ before, (fun b => decide (b < W.heap.size)) p.block = true := fun p hp => by simpa using hlt p hp
  refine ⟨ds, gs, before, [], pa, pv, hW, hres _ _ _, hargs _ hold, hvars _ hold, World.keptBut_mono (fun p hp => ⟨hp, ?_⟩) (hb.frame (· ∈ before)), fun _ => ?_⟩
  · rw [hps, List.mem_append] at hp
    exact Or.inr hp
  · obtain ⟨_, _, _, _, _, hz, hn⟩ := hW
    refine ⟨hok, _, _, ([] ++ pa) ++ pv, ⟨[] ++ pa, pv, trodAll_append (hargs _ (fun _ _ => rfl)) (hres _ _ _), hvars _ (fun _ _ => rfl), rfl, ?_, ?_⟩, ?_⟩
    · intro b off hp
      have hin : MemPlace.cell b off ∈ before := by rw [hps]; simpa using hp
      rw [hb.frozen (hlt _ hin)]
      exact hz b off hin
    · intro ha
      have := hn ha
      rw [hps] at this
      simpa using this
    · intro p hp _
      rw [hps]
      simpa using hp
end

theorem own : ownKnob Tryz.prog.godebug = none := by kernel_rfl
theorem laidOut : laidOutB Tryz.prog = true := by kernel_rfl
section
variable {H : Type} {enc : TypeId × Value → H} {w : World} {base : Nat} {spare : Nat → Bool} {held : Bool}

theorem cellsInt : Tryz.prog.cellsOf 3 = 1 := by kernel_rfl
theorem cellsInts : Tryz.prog.cellsOf 22 = 1 := by kernel_rfl
theorem cellsRows : Tryz.prog.cellsOf 25 = 1 := by kernel_rfl
theorem cellsField : Tryz.prog.cellsOf 24 = 3 := by kernel_rfl
theorem spot_none {a : Addr} {v : Value} (h : w.cell? a = some v) : a = ⟨a.block, a.off, none⟩ := by
  obtain ⟨b, o, s⟩ := a
  cases s with
  | none => rfl
  | some s =>
    unfold World.cell? at h
    split at h <;> simp at h
theorem int_cell {fuel : Nat} {c : Value} {x : DataW H × List MemPlace} (h : DataW.trod enc Tryz.prog w base spare held fuel 3 [c] = some x) : ∃ n, c = .int .i64 n := by
  obtain ⟨n, h1, _, _⟩ := DataW.trod_int Tryz.underlying3 h
  exact ⟨n, by simpa using h1⟩
theorem ints_cell {fuel : Nat} {c : Value} {x : DataW H × List MemPlace} (h : DataW.trod enc Tryz.prog w base spare held fuel 22 [c] = some x) :
    ∃ (zs : List Int) (A : Option Addr) (k : Nat), c = .slice A zs.length k ∧ zs.length ≤ maxLen ∧ IntsAt w w.heap.size A zs := by
  rcases open_slice1 Tryz.underlying22 cellsInt h with ⟨h0, _⟩ | ⟨a, len, cap, m, n, V, D, Pl, hcs, _, hl, hm, hmm, _, hx⟩
  · exact ⟨[], none, 0, by simpa using h0, by simp, fun h => absurd h (by simp)⟩
  · have hlm : len ≤ m := by rw [hmm]; split <;> omega
    have hV : ∀ i, i < len → ∃ z, V i = .int .i64 z := fun i hi => int_cell (hx i (by omega)).2
    refine ⟨(List.range len).map fun i => intOf (V i), some a, cap, by simpa using hcs, by simp; omega, fun hz => ?_⟩
    simp only [List.length_map, List.length_range] at hz ⊢
    have h0 := (hx 0 (by omega)).1
    have ha : a.add 0 = a := rfl
    rw [ha] at h0
    refine ⟨a.block, a.off, congrArg some (spot_none h0), World.block_lt_of_cell? w _ h0, fun j hj => ?_⟩
    have hj' := (hx j (by omega)).1
    obtain ⟨z, e⟩ := hV j hj
    have hadd : a.add j = ⟨a.block, a.off + j, none⟩ := by rw [spot_none h0]; exact Addr.add_mid _ _ _
    rw [hadd] at hj'
    rw [hj', e]
    simp [List.getD, hj, e, intOf]
theorem rows_cell {fuel : Nat} {c : Value} {x : DataW H × List MemPlace} (h : DataW.trod enc Tryz.prog w base spare held fuel 25 [c] = some x) :
    ∃ (zs : List (List Int)) (A : Option Addr) (k : Nat), c = .slice A zs.length k ∧ zs.length ≤ maxLen ∧ RowsAt w w.heap.size A zs := by
  rcases open_slice1 Tryz.underlying25 cellsInts h with ⟨h0, _⟩ | ⟨a, len, cap, m, n, V, D, Pl, hcs, _, hl, hm, hmm, _, hx⟩
  · exact ⟨[], none, 0, by simpa using h0, by simp, fun h => absurd h (by simp)⟩
  · have hlm : len ≤ m := by rw [hmm]; split <;> omega
    have key : ∀ i, i < len → ∃ (zs : List Int) (A : Option Addr) (k : Nat), V i = .slice A zs.length k ∧ zs.length ≤ maxLen ∧ IntsAt w w.heap.size A zs := fun i hi => ints_cell (hx i (by omega)).2
    obtain ⟨f, hf⟩ : ∃ f : Nat → List Int, ∀ i, i < len → ∃ (A : Option Addr) (k : Nat), V i = .slice A (f i).length k ∧ (f i).length ≤ maxLen ∧ IntsAt w w.heap.size A (f i) :=
      ⟨fun i => if h : i < len then Classical.choose (key i h) else [], fun i hi => by simp only [hi, dif_pos]; exact Classical.choose_spec (key i hi)⟩
    refine ⟨(List.range len).map f, some a, cap, by simpa using hcs, by simp; omega, fun hz => ?_⟩
    simp only [List.length_map, List.length_range] at hz ⊢
    have h0 := (hx 0 (by omega)).1
    have ha : a.add 0 = a := rfl
    rw [ha] at h0
    refine ⟨a.block, a.off, congrArg some (spot_none h0), World.block_lt_of_cell? w _ h0, fun j hj => ?_⟩
    have hj' := (hx j (by omega)).1
    obtain ⟨Aj, kj, e, _, hi⟩ := hf j hj
    have hadd : a.add j = ⟨a.block, a.off + j, none⟩ := by rw [spot_none h0]; exact Addr.add_mid _ _ _
    rw [hadd] at hj'
    have hg : ((List.range len).map f).getD j [] = f j := by simp [List.getD, hj]
    rw [hg]
    exact ⟨Aj, kj, by rw [hj', e], hi⟩
theorem field_of {fuel : Nat} {t : TypeId} {fs : Array Field} {cs : List Value} {x : DataW H × List MemPlace} (ht : Tryz.prog.underlying t = some (.struct fs)) (h : DataW.trod enc Tryz.prog w base spare held fuel t cs = some x) (i : Nat) (t' : TypeId) (off k : Nat) (hf : (fs[i]?).map (fun f => (f.type, f.offset)) = some (t', off)) (hk : Tryz.prog.cellsOf t' = k) :
    ∃ n y, n < fuel ∧ DataW.trod enc Tryz.prog w base spare held n t' ((cs.drop off).take k) = some y := by
  obtain ⟨xs, n, hn, _, _, hlen, hg⟩ := DataW.trod_struct ht h
  obtain ⟨f, hff, he⟩ := Option.map_eq_some_iff.1 hf
  have hi : i < fs.size := (Array.getElem?_eq_some_iff.1 hff).1
  simp only [Prod.mk.injEq] at he
  obtain ⟨rfl, rfl⟩ := he
  subst hk
  exact ⟨n, xs[i]'(by omega), by omega, by rw [hg i f hff, List.getElem?_eq_getElem]⟩
theorem code_cells (fuel : Nat) (cs : List Value) (x : DataW H × List MemPlace) (h : DataW.trod enc Tryz.prog w base spare held fuel 27 cs = some x) (hl : cs.length = 5) :
    ∃ (p m : Int) (mod : List Int) (Am : Option Addr) (cm : Nat) (N : Int) (zs : List (List Int)) (A : Option Addr) (c : Nat), cs = [.int .i64 p, .int .i64 m, .slice Am mod.length cm, .int .i64 N, .slice A zs.length c] ∧
      IntsAt w w.heap.size Am mod ∧ mod.length ≤ 9223372036854775807 ∧ RowsAt w w.heap.size A zs ∧ zs.length ≤ 9223372036854775807 := by
  match cs, hl with
  | [c0, c1, c2, c3, c4], _ =>
    obtain ⟨_, _, _, hF⟩ := field_of Tryz.underlying27 h 0 24 0 3 rfl cellsField
    obtain ⟨_, _, _, h3⟩ := field_of Tryz.underlying27 h 1 3 3 1 rfl cellsInt
    obtain ⟨_, _, _, h4⟩ := field_of Tryz.underlying27 h 2 25 4 1 rfl cellsRows
    obtain ⟨_, _, _, h0⟩ := field_of Tryz.underlying24 hF 0 3 0 1 rfl cellsInt
    obtain ⟨_, _, _, h1⟩ := field_of Tryz.underlying24 hF 1 3 1 1 rfl cellsInt
    obtain ⟨_, _, _, h2⟩ := field_of Tryz.underlying24 hF 2 22 2 1 rfl cellsInts
    obtain ⟨p, rfl⟩ := int_cell h0
    obtain ⟨m, rfl⟩ := int_cell h1
    obtain ⟨mod, Am, cm, rfl, hml, hM⟩ := ints_cell h2
    obtain ⟨N, rfl⟩ := int_cell h3
    obtain ⟨zs, A, c, rfl, hzl, hA⟩ := rows_cell h4
    exact ⟨p, m, mod, Am, cm, N, zs, A, c, rfl, hM, hml, hA, hzl⟩
#print axioms code_cells
end
end Go.Proofs.YtcfejnnhcdlffaaGreat

/-
  DeriveTrivials, for every input: the law returns true and its argument reads as it did.
-/
namespace Go.Proofs.YtcfejnnhcdlffaaGreat
open Go.ChangeShapes Go.WideShapes Go.ChangeAt Go.RowKit

set_option maxRecDepth 100000 in
theorem deriveTrivials_contract (H : Type) (enc : TypeId × Value → H) (W : World) (base : Nat) (args : Array Value) (ds gs : List (DataW H)) (before : List MemPlace)
    (hval : ∀ (j : Nat) t v, Tryz.f3.params[j]? = some t → args[j]? = some v → Value.okWide Tryz.prog W .any base t v)
    (hW : DataW.Whole enc Tryz.prog Tryz.f3.params.toList Rows.deriveTrivialsSpec.vars false W args.toList ds gs before) :
    Calls Tryz.prog 3 args W fun e W' => ∃ v, e = .returned v ∧ Rows.deriveTrivialsSpec.post enc Tryz.prog Tryz.f3 false true false false W args v W' := by
  have hW' := hW
  obtain ⟨p, q, hA0, hV, rfl, hfz, hnd⟩ := hW
  have hA : DataW.TrodAll enc Tryz.prog W 0 (fun _ => true) true Tryz.f3.params.toList args.toList ds p := hA0
  rw [Tryz.params3] at hA hval
  obtain ⟨v0, vs0, d0, ds0, p0, q0, hargs, rfl, rfl, h0, r0⟩ := trodAll_cons hA
  obtain ⟨rfl, rfl, rfl⟩ := trodAll_nil r0
  obtain rfl : args = #[v0] := by cases args; simp_all
  obtain ⟨rfl, rfl⟩ := trodVars_none hV
  simp only [List.append_nil] at hW'
  have h0k := h0
  have hlt : ∀ x ∈ p0, x.block < W.heap.size := fun x hx => by simpa using hW'.lt x hx
  obtain ⟨cs, rfl, hsz⟩ := okWide_struct Tryz.underlying27 (hval 0 27 v0 rfl rfl)
  obtain ⟨fuel, hf⟩ := h0
  obtain ⟨p, m, mod, Am, cm, N, zs, A, c, hcs, hM, hml, hR, hzl⟩ := code_cells fuel cs.toList _ hf (by rw [Array.length_toList, hsz]; kernel_rfl)
  clear hA0
  have hcall := law_c p m mod Am cm N zs A c W hM hml hR hzl
  have hca : cs = #[.int .i64 p, .int .i64 m, .slice Am mod.length cm, .int .i64 N, .slice A zs.length c] := by rw [← Array.toArray_toList (xs := cs), hcs]
  rw [← hca] at hcall
  refine hcall.mono fun e W' ⟨he, hb⟩ => ?_
  subst he
  exact ⟨_, rfl, post_of_below (pa := p0) (pv := []) hW' (fun _ _ _ => trodAll_cons_mk (shut_bool Tryz.underlying4 _) trodAll_mk0)
    (fun sp hsp => by
      have hT := WideElems.Trod_stays (sp' := sp) laidOut (by kernel_rfl) (of_decide_eq_true (by kernel_rfl)) h0k (fun x hx => hb.same (hlt x hx)) (fun x hx => hsp x hx)
      have h2 := trodAll_cons_mk hT trodAll_mk0
      rw [List.append_nil] at h2
      exact h2) (fun _ _ => rfl) (by simp)
    hb (ok_one (by kernel_rfl) rfl (okWide_bool_mk Tryz.underlying4 _))⟩

noncomputable def bareWorld (os : Os) : World := World.holding Tryz.prog os ⟨#[], #[], []⟩
theorem deriveTrivials_reads (os : Os) {H : Type} (enc : TypeId × Value → H) : ∃ places, DataW.whole enc Tryz.prog ((bareWorld os).forCall (fun _ _ => 0) ⟨#[], #[.agg #[.int .i64 0, .int .i64 0, .slice none 0 0, .int .i64 0, .slice none 0 0]], []⟩).memory Tryz.f3.params.toList Rows.deriveTrivialsSpec.vars false #[.agg #[.int .i64 0, .int .i64 0, .slice none 0 0, .int .i64 0, .slice none 0 0]].toList 8 = some ([.agg [.agg [.lit (.int .i64 0), .lit (.int .i64 0), .nil], .lit (.int .i64 0), .nil]], [], places) :=
  ⟨[], by kernel_rfl⟩

set_option maxRecDepth 100000 in
theorem deriveTrivials_lifted (os : Os) (started : os.Started) (H : Type) (enc : TypeId × Value → H) (F : Stop.Interp) :
    ReturnsInHanded {} Tryz.checked os 3 .any ((OpenSpec.ofChange Rows.deriveTrivialsSpec).preRow enc Tryz.prog Tryz.f3 Rows.deriveTrivialsRow.domain false Rows.deriveTrivialsRow.laid) (((OpenSpec.ofChange Rows.deriveTrivialsSpec).at F).post enc Tryz.prog Tryz.f3 false true false false) := by
  obtain ⟨places, hx⟩ := deriveTrivials_reads os enc
  refine returnsInHanded_of_row (C := Tryz.checked) (s := OpenSpec.ofChange Rows.deriveTrivialsSpec) own started (by kernel_rfl) Tryz.func3
    (witness_row_at (enc := enc) (C := Tryz.checked) false (bareWorld os) #[.agg #[.int .i64 0, .int .i64 0, .slice none 0 0, .int .i64 0, .slice none 0 0]] rfl (by kernel_rfl) (by kernel_rfl) (by kernel_rfl)
      (OpenSpec.preRow_of_cond 8 hx (by kernel_rfl) (fun k hk => by cases hk) (by kernel_rfl) (laidMet_nil _ _))) ?_
  intro W base args ds gs before hval hW _ _ _ _ _ _
  exact deriveTrivials_contract H enc W base args ds gs before hval hW

/-- THE STATEMENT. -/
theorem deriveTrivials_said : Rows.DeriveTrivialsSaid :=
  OpenClaim.holds_of_cond 3 Tryz.f3 rfl rfl rfl rfl rfl rfl rfl ⟨rfl, rfl, rfl, rfl, rfl⟩ rfl rfl rfl rfl rfl (by kernel_rfl) Tryz.func3 (by kernel_rfl)
    (of_decide_eq_true (by kernel_rfl)) (by unfold Func.isWrapper; first | (rw [if_pos (by decide +kernel)]; kernel_rfl) | (rw [if_neg (by decide +kernel)]; exact ⟨rfl, rfl⟩))
    (fun os started H enc _ F => by rw [OpenClaim.pre_eq_preRow]; exact deriveTrivials_lifted os started H enc F)
#print axioms deriveTrivials_said
end Go.Proofs.YtcfejnnhcdlffaaGreat
