/-
 CompileReplaces, for every input: Names are replaced by their values, and nothing else; the errors come in the document's order. The card: the listed package variables are tied to the program's text.
-/
import Derived.Test.YtaddcadapbpkfaaGreatDoorR50
import Derived.Test.YtaddcadapbpkfaaGreatDoorR51
namespace Go.Proofs.YtaddcadapbpkfaaGreatDoor
open Go.ChangeShapes Go.WideShapes Go.ChangeAt Go.RowKit
set_option maxRecDepth 100000 in
theorem cC (H : Type) (enc : TypeId × Value -> H) (W : World) (base : Nat) (args : Array Value) (ds gs : List (DataW H)) (before : List MemPlace)
 (hval : ∀ (j : Nat) t v,Tryz.f4.params[j]? = some t -> args[j]? = some v -> Value.okWide Tryz.prog W .any base t v)
 (hW : DataW.Whole enc Tryz.prog Tryz.f4.params.toList Rows.compileReplacesSpec.vars false W args.toList ds gs before) (hL : laidMetH Tryz.prog Rows.compileReplacesRow.laid W) :
 Calls Tryz.prog 4 args W fun e W' => ∃ v,e = .returned v /\ Rows.compileReplacesSpec.post enc Tryz.prog Tryz.f4 false true false false W args v W' := by
 have hW' := hW
 obtain ⟨p,q,hA0,hV,rfl,hfz,hnd⟩ := hW
 have hA : DataW.TrodAll enc Tryz.prog W 0 (fun _ => true) true Tryz.f4.params.toList args.toList ds p := hA0
 rw [Tryz.params4] at hA hval
 obtain ⟨v0,vs0,d0,ds0,p0,q0,hargs,rfl,rfl,h0,r0⟩ := trodAll_cons hA
 obtain ⟨v1,vs1,d1,ds1,p1,q1,hargs1,rfl,rfl,h1,r1⟩ := trodAll_cons r0
 obtain ⟨v2,vs2,d2,ds2,p2,q2,hargs2,rfl,rfl,h2,r2⟩ := trodAll_cons r1
 obtain ⟨rfl,rfl,rfl⟩ := trodAll_nil r2
 subst hargs2
 subst hargs1
 obtain rfl : args = #[v0,v1,v2] := by cases args;simp_all
 obtain ⟨rfl,rfl⟩ := trodVars_none hV
 simp only [List.append_nil] at hW'
 have h0k := h0
 have h1k := h1
 have h2k := h2
 have hlt0 : ∀ x ∈ p0,x.block < W.heap.size := fun x hx => by simpa using hW'.lt x (by simp [hx])
 have hlt1 : ∀ x ∈ p1,x.block < W.heap.size := fun x hx => by simpa using hW'.lt x (by simp [hx])
 have hlt2 : ∀ x ∈ p2,x.block < W.heap.size := fun x hx => by simpa using hW'.lt x (by simp [hx])
 have hc1 : v1.cells = #[v1] := by
  have hv := hval 1 42 v1 rfl rfl
  unfold Value.okWide at hv
  rw [Tryz.underlying42] at hv
  cases v1 <;> first | rfl | (simp [Cell.okWide,Cell.ok,Tryz.underlying42] at hv)
 obtain ⟨fuel1,hf1⟩ := h1
 rw [hc1] at hf1
 have hc2 : v2.cells = #[v2] := by
  have hv := hval 2 23 v2 rfl rfl
  unfold Value.okWide at hv
  rw [Tryz.underlying23] at hv
  cases v2 <;> first | rfl | (simp [Cell.okWide,Cell.ok,Tryz.underlying23] at hv)
 obtain ⟨fuel2,hf2⟩ := h2
 rw [hc2] at hf2
 obtain ⟨na,ns,nc,rfl,hnl,hns⟩ := strs_cell hf1
 obtain ⟨va,ws,vc,rfl,hvl,hvs,hvo⟩ := exprs_cell hf2
 obtain ⟨cs,rfl,hsz⟩ := okWide_struct Tryz.underlying25 (hval 0 25 v0 rfl rfl)
 obtain ⟨fuel,hf⟩ := h0
 obtain ⟨y,hy,hok⟩ := expr_cells fuel cs.toList _ hf (by rw [Array.length_toList,hsz];kernel_rfl)
 clear hA0
 have hcall := lawReplaces_c y cs.toList na nc va vc ns ws W hy hok hns hnl hvs hvl hvo (pows_of hL)
 rw [Array.toArray_toList] at hcall
 refine hcall.mono fun e W' ⟨he,hb⟩ => ?_
 subst he
 exact ⟨_,rfl,post_of_below (pa := p0 ++ (p1 ++ p2)) (pv := []) hW' (fun _ _ _ => trodAll_cons_mk (shut_bool Tryz.underlying4 _) trodAll_mk0)
  (fun sp hsp => by
    have hT0 := WideElems.Trod_stays (sp' := sp) laidOut (by kernel_rfl) (of_decide_eq_true (by kernel_rfl)) h0k (fun x hx => hb.same (hlt0 x hx)) (fun x hx => hsp x (by simp [hx]))
    have hT1 := WideElems.Trod_stays (sp' := sp) laidOut (by kernel_rfl) (of_decide_eq_true (by kernel_rfl)) h1k (fun x hx => hb.same (hlt1 x hx)) (fun x hx => hsp x (by simp [hx]))
    have hT2 := WideElems.Trod_stays (sp' := sp) laidOut (by kernel_rfl) (of_decide_eq_true (by kernel_rfl)) h2k (fun x hx => hb.same (hlt2 x hx)) (fun x hx => hsp x (by simp [hx]))
    have h3 := trodAll_cons_mk hT0 (trodAll_cons_mk hT1 (trodAll_cons_mk hT2 trodAll_mk0))
    rw [List.append_nil] at h3
    exact h3) (fun _ _ => rfl) (by simp)
  hb (ok_one (by kernel_rfl) rfl (okWide_bool_mk Tryz.underlying4 _))⟩
theorem cL (os : Os) : laidMet Tryz.prog Rows.compileReplacesRow.laid ((laidWorld os).forCall (fun _ _ => 0) ⟨#[],#[.agg #[.int .i64 0,.string ⟨#[]⟩,.int .i64 0,.slice none 0 0,.slice none 0 0],.slice none 0 0,.slice none 0 0],[]⟩).memory :=
 laidMet_of_run' 8 (by kernel_rfl) (by kernel_rfl)
theorem cR (os : Os) {H : Type} (enc : TypeId × Value -> H) : ∃ places,DataW.whole enc Tryz.prog ((laidWorld os).forCall (fun _ _ => 0) ⟨#[],#[.agg #[.int .i64 0,.string ⟨#[]⟩,.int .i64 0,.slice none 0 0,.slice none 0 0],.slice none 0 0,.slice none 0 0],[]⟩).memory Tryz.f4.params.toList Rows.compileReplacesSpec.vars false #[.agg #[.int .i64 0,.string ⟨#[]⟩,.int .i64 0,.slice none 0 0,.slice none 0 0],.slice none 0 0,.slice none 0 0].toList 8 = some ([.agg [.lit (.int .i64 0),.lit (.string []),.lit (.int .i64 0),.nil,.nil],.nil,.nil],[],places) :=
 ⟨[],by kernel_rfl⟩
set_option maxRecDepth 100000 in
theorem cI (os : Os) (started : os.Started) (H : Type) (enc : TypeId × Value -> H) (F : Stop.Interp) :
 ReturnsInHanded {} Tryz.checked os 4 .any ((OpenSpec.ofChange Rows.compileReplacesSpec).preRow enc Tryz.prog Tryz.f4 Rows.compileReplacesRow.domain false Rows.compileReplacesRow.laid) (((OpenSpec.ofChange Rows.compileReplacesSpec).at F).post enc Tryz.prog Tryz.f4 false true false false) := by
 obtain ⟨places,hx⟩ := cR os enc
 refine returnsInHanded_of_row (C := Tryz.checked) (s := OpenSpec.ofChange Rows.compileReplacesSpec) own started (by kernel_rfl) Tryz.func4
  (witness_row_at (enc := enc) (C := Tryz.checked) false (laidWorld os) #[.agg #[.int .i64 0,.string ⟨#[]⟩,.int .i64 0,.slice none 0 0,.slice none 0 0],.slice none 0 0,.slice none 0 0] rfl (by kernel_rfl) (by kernel_rfl) (by kernel_rfl)
    (OpenSpec.preRow_of_cond 8 hx (by kernel_rfl) (fun k hk => by cases hk) (by kernel_rfl) (cL os))) ?_
 intro W base args ds gs before hval hW _ _ _ hL _ _
 exact cC H enc W base args ds gs before hval hW hL
theorem cf0 : (Rows.compileReplacesRow.inPlace == Tryz.pinned.checked.prog.inPlace 4) = true := by kernel_rfl
theorem cf1 : (Rows.compileReplacesRow.unfollowed == Tryz.pinned.checked.prog.unfollowed 4) = true := by kernel_rfl
theorem cf2 : (Rows.compileReplacesRow.recurses == Tryz.pinned.checked.prog.recurses 4) = true := by kernel_rfl
theorem cf3 : (Rows.compileReplacesRow.named == Tryz.pinned.checked.prog.varsNamed 4) = true := by kernel_rfl
theorem cF : joinedFacts Tryz.pinned.checked.prog 4 Tryz.f4 (OpenSpec.ofChange Rows.compileReplacesSpec).bare Rows.compileReplacesRow = true := by
 unfold joinedFacts
 rw [cf0,cf1,cf2,cf3]
 kernel_rfl
theorem cS : Rows.CompileReplacesSaid :=
 OpenClaim.holds_of_cond 4 Tryz.f4 rfl rfl rfl rfl rfl rfl rfl ⟨rfl,rfl,rfl,rfl,rfl⟩ rfl rfl rfl rfl rfl (by kernel_rfl) Tryz.func4 cF
  (of_decide_eq_true (by kernel_rfl)) (by unfold Func.isWrapper;first | (rw [if_pos (by decide +kernel)];kernel_rfl) | (rw [if_neg (by decide +kernel)];exact ⟨rfl,rfl⟩))
  (fun os started H enc _ F => by rw [OpenClaim.pre_eq_preRow];exact cI os started H enc F)
theorem cP (f : FuncId) (fn : Func) (hf : Tryz.pinned.checked.prog.funcNamed "codewright/codewrightlaw22.CompileReplaces" = some f) (hfn : Tryz.pinned.checked.prog.funcs[f]? = some fn) :
 false = Tryz.pinned.checked.prog.looks [] /\ ∀ (j : Nat) t,fn.params[j]? = some t -> Tryz.pinned.checked.prog.wantsStandIn t = false := by
 obtain rfl : f = 4 := Option.some.inj ((show Tryz.prog.funcNamed "codewright/codewrightlaw22.CompileReplaces" = some 4 by kernel_rfl).symm.trans hf) |>.symm
 obtain rfl : fn = Tryz.f4 := (Option.some.inj (Tryz.func4.symm.trans hfn)).symm
 refine ⟨by kernel_rfl,fun j t ht => ?_⟩
 rw [Tryz.params4] at ht
 have hm : t = 25 \/ t = 42 \/ t = 23 := by simpa using Array.mem_of_getElem? ht
 rcases hm with rfl | rfl | rfl
 . exact (show Tryz.prog.wantsStandIn 25 = false by kernel_rfl)
 . exact (show Tryz.prog.wantsStandIn 42 = false by kernel_rfl)
 . exact (show Tryz.prog.wantsStandIn 23 = false by kernel_rfl)
theorem compileReplaces_card : Rows.CompileReplacesCardSaid :=
 Claim7.holds_tied_plain_at .later [] _ _ _ _ cS (fun _ h => by cases h) (by kernel_rfl) (fun _ h => by cases h) compileReplaces_row_tie rfl ⟨rfl,rfl⟩ (by kernel_rfl) rfl cP (by kernel_rfl)
end Go.Proofs.YtaddcadapbpkfaaGreatDoor
