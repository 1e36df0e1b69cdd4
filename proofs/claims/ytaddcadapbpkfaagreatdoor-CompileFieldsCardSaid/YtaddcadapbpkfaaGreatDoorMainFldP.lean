/-
  CompileFields, for every input: An expression means the field of the table, or has the first error of the document's order. The card: the listed package variables are tied to the program's text.
-/
import Derived.Test.YtaddcadapbpkfaaGreatDoorQ01
import Derived.Test.YtaddcadapbpkfaaGreatDoorQ51
import Derived.Test.YtaddcadapbpkfaaGreatDoorQ50
namespace Go.Proofs.YtaddcadapbpkfaaGreatDoor
open Go.ChangeShapes Go.WideShapes Go.ChangeAt Go.RowKit

set_option maxRecDepth 100000 in
theorem compileFields_contract (H : Type) (enc : TypeId × Value -> H) (W : World) (base : Nat) (args : Array Value) (ds gs : List (DataW H)) (before : List MemPlace)
    (hval : ∀ (j : Nat) t v,Tryz.f3.params[j]? = some t -> args[j]? = some v -> Value.okWide Tryz.prog W .any base t v)
    (hW : DataW.Whole enc Tryz.prog Tryz.f3.params.toList Rows.compileFieldsSpec.vars false W args.toList ds gs before) (hL : laidMetH Tryz.prog Rows.compileFieldsRow.laid W) :
    Calls Tryz.prog 3 args W fun e W' => ∃ v,e = .returned v /\ Rows.compileFieldsSpec.post enc Tryz.prog Tryz.f3 false true false false W args v W' := by
  have hW' := hW
  obtain ⟨p,q,hA0,hV,rfl,hfz,hnd⟩ := hW
  have hA : DataW.TrodAll enc Tryz.prog W 0 (fun _ => true) true Tryz.f3.params.toList args.toList ds p := hA0
  rw [Tryz.params3] at hA hval
  obtain ⟨v0,vs0,d0,ds0,p0,q0,hargs,rfl,rfl,h0,r0⟩ := trodAll_cons hA
  obtain ⟨rfl,rfl,rfl⟩ := trodAll_nil r0
  obtain rfl : args = #[v0] := by cases args;simp_all
  obtain ⟨rfl,rfl⟩ := trodVars_none hV
  simp only [List.append_nil] at hW'
  have h0k := h0
  have hlt : ∀ x ∈ p0,x.block < W.heap.size := fun x hx => by simpa using hW'.lt x hx
  obtain ⟨cs,rfl,hsz⟩ := okWide_struct Tryz.underlying25 (hval 0 25 v0 rfl rfl)
  obtain ⟨fuel,hf⟩ := h0
  obtain ⟨y,hy,hok⟩ := expr_cells fuel cs.toList _ hf (by rw [Array.length_toList,hsz];kernel_rfl)
  clear hA0
  have hcall := lawFields_c y cs.toList _ W hy hok (pows_of hL)
  rw [Array.toArray_toList] at hcall
  refine hcall.mono fun e W' ⟨he,hb⟩ => ?_
  subst he
  exact ⟨_,rfl,post_of_below (pa := p0) (pv := []) hW' (fun _ _ _ => trodAll_cons_mk (shut_bool Tryz.underlying4 _) trodAll_mk0)
    (fun sp hsp => by
      have hT := WideElems.Trod_stays (sp' := sp) laidOut (by kernel_rfl) (of_decide_eq_true (by kernel_rfl)) h0k (fun x hx => hb.same (hlt x hx)) (fun x hx => hsp x hx)
      have h2 := trodAll_cons_mk hT trodAll_mk0
      rw [List.append_nil] at h2
      exact h2) (fun _ _ => rfl) (by simp)
    hb (ok_one (by kernel_rfl) rfl (okWide_bool_mk Tryz.underlying4 _))⟩

theorem compileFields_laid_met (os : Os) : laidMet Tryz.prog Rows.compileFieldsRow.laid ((laidWorld os).forCall (fun _ _ => 0) ⟨#[],#[.agg #[.int .i64 0,.string ⟨#[]⟩,.int .i64 0,.slice none 0 0,.slice none 0 0]],[]⟩).memory :=
  laidMet_of_run' 8 (by kernel_rfl) (by kernel_rfl)
theorem compileFields_reads (os : Os) {H : Type} (enc : TypeId × Value -> H) : ∃ places,DataW.whole enc Tryz.prog ((laidWorld os).forCall (fun _ _ => 0) ⟨#[],#[.agg #[.int .i64 0,.string ⟨#[]⟩,.int .i64 0,.slice none 0 0,.slice none 0 0]],[]⟩).memory Tryz.f3.params.toList Rows.compileFieldsSpec.vars false #[.agg #[.int .i64 0,.string ⟨#[]⟩,.int .i64 0,.slice none 0 0,.slice none 0 0]].toList 8 = some ([.agg [.lit (.int .i64 0),.lit (.string []),.lit (.int .i64 0),.nil,.nil]],[],places) :=
  ⟨[],by kernel_rfl⟩

set_option maxRecDepth 100000 in
theorem compileFields_lifted (os : Os) (started : os.Started) (H : Type) (enc : TypeId × Value -> H) (F : Stop.Interp) :
    ReturnsInHanded {} Tryz.checked os 3 .any ((OpenSpec.ofChange Rows.compileFieldsSpec).preRow enc Tryz.prog Tryz.f3 Rows.compileFieldsRow.domain false Rows.compileFieldsRow.laid) (((OpenSpec.ofChange Rows.compileFieldsSpec).at F).post enc Tryz.prog Tryz.f3 false true false false) := by
  obtain ⟨places,hx⟩ := compileFields_reads os enc
  refine returnsInHanded_of_row (C := Tryz.checked) (s := OpenSpec.ofChange Rows.compileFieldsSpec) own started (by kernel_rfl) Tryz.func3
    (witness_row_at (enc := enc) (C := Tryz.checked) false (laidWorld os) #[.agg #[.int .i64 0,.string ⟨#[]⟩,.int .i64 0,.slice none 0 0,.slice none 0 0]] rfl (by kernel_rfl) (by kernel_rfl) (by kernel_rfl)
      (OpenSpec.preRow_of_cond 8 hx (by kernel_rfl) (fun k hk => by cases hk) (by kernel_rfl) (compileFields_laid_met os))) ?_
  intro W base args ds gs before hval hW _ _ _ hL _ _
  exact compileFields_contract H enc W base args ds gs before hval hW hL

theorem compileFields_fact0 : (Rows.compileFieldsRow.inPlace == Tryz.pinned.checked.prog.inPlace 3) = true := by kernel_rfl
theorem compileFields_fact1 : (Rows.compileFieldsRow.unfollowed == Tryz.pinned.checked.prog.unfollowed 3) = true := by kernel_rfl
theorem compileFields_fact2 : (Rows.compileFieldsRow.recurses == Tryz.pinned.checked.prog.recurses 3) = true := by kernel_rfl
theorem compileFields_fact3 : (Rows.compileFieldsRow.named == Tryz.pinned.checked.prog.varsNamed 3) = true := by kernel_rfl
theorem compileFields_facts : joinedFacts Tryz.pinned.checked.prog 3 Tryz.f3 (OpenSpec.ofChange Rows.compileFieldsSpec).bare Rows.compileFieldsRow = true := by
  unfold joinedFacts
  rw [compileFields_fact0,compileFields_fact1,compileFields_fact2,compileFields_fact3]
  kernel_rfl
theorem compileFields_said : Rows.CompileFieldsSaid :=
  OpenClaim.holds_of_cond 3 Tryz.f3 rfl rfl rfl rfl rfl rfl rfl ⟨rfl,rfl,rfl,rfl,rfl⟩ rfl rfl rfl rfl rfl (by kernel_rfl) Tryz.func3 compileFields_facts
    (of_decide_eq_true (by kernel_rfl)) (by unfold Func.isWrapper;first | (rw [if_pos (by decide +kernel)];kernel_rfl) | (rw [if_neg (by decide +kernel)];exact ⟨rfl,rfl⟩))
    (fun os started H enc _ F => by rw [OpenClaim.pre_eq_preRow];exact compileFields_lifted os started H enc F)

theorem compileFields_plain (f : FuncId) (fn : Func) (hf : Tryz.pinned.checked.prog.funcNamed "codewright/codewrightlaw22.CompileFields" = some f) (hfn : Tryz.pinned.checked.prog.funcs[f]? = some fn) :
    false = Tryz.pinned.checked.prog.looks [] /\ ∀ (j : Nat) t,fn.params[j]? = some t -> Tryz.pinned.checked.prog.wantsStandIn t = false := by
  obtain rfl : f = 3 := Option.some.inj ((show Tryz.prog.funcNamed "codewright/codewrightlaw22.CompileFields" = some 3 by kernel_rfl).symm.trans hf) |>.symm
  obtain rfl : fn = Tryz.f3 := (Option.some.inj (Tryz.func3.symm.trans hfn)).symm
  refine ⟨by kernel_rfl,fun j t ht => ?_⟩
  rw [Tryz.params3] at ht
  obtain rfl : t = 25 := by simpa using Array.mem_of_getElem? ht
  exact (show Tryz.prog.wantsStandIn 25 = false by kernel_rfl)

theorem compileFields_card : Rows.CompileFieldsCardSaid :=
  Claim7.holds_tied_plain_at .later [] _ _ _ _ compileFields_said (fun _ h => by cases h) (by kernel_rfl) (fun _ h => by cases h) compileFields_row_tie rfl ⟨rfl,rfl⟩ (by kernel_rfl) rfl compileFields_plain (by kernel_rfl)
end Go.Proofs.YtaddcadapbpkfaaGreatDoor

