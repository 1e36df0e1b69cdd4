/-
 compile.replace answers the expression with names put in their places. append([]api.Expr{x}, values...): the expressions one behind the other.
-/
import Derived.Test.YtaddcadapbpkfaaGreatDoorR45
import Derived.Test.YtaddcadapbpkfaaGreatDoorR44
import Derived.Test.YtaddcadapbpkfaaGreatDoorR07
namespace Go.Proofs.YtaddcadapbpkfaaGreatDoor
open Go.RowKit Pln
theorem copy_c (B : Nat) : ∀ (y : E) (cs : List Value) (w : World),ExprC w (· < B) y cs -> B <= w.heap.size -> OkE y -> Calls Tryz.prog 24 #[.agg cs.toArray,.map none] w (RepPost w y) := by
 refine qaT ?_
 intro k nm n ls xs ih cs w h hB hok
 unfold ExprC at h
 obtain ⟨la,lc,aa,ac,rfl,hli,ha⟩ := h
 have hw := replace_walk (fun _ => none) none B k nm n ls xs la lc aa ac w hli ha (MapE.none_ _ _) hB hok.lens.1 hok.lens.2 (fun y cs w' _ h => by cases h)
  (fun i hi cs w' hb hx => by
    rw [repE_none]
    exact ih _ (List.getElem_mem hi) cs w' hx (Nat.le_trans hB hb.size) (hok.arg (List.getElem_mem hi)))
 rw [repE_none] at hw
 exact hw
theorem replace_c (B : Nat) (f : List UInt8 -> Option E) (m : Option Nat) (hf : ∀ nm y,f nm = some y -> OkE y) : ∀ (x : E) (cs : List Value) (w : World),ExprC w (· < B) x cs -> MapE w (· < B) m f -> B <= w.heap.size -> OkE x ->
 Calls Tryz.prog 24 #[.agg cs.toArray,.map m] w (RepPost w (repE f x)) := by
 refine qaT ?_
 intro k nm n ls xs ih cs w h hm hB hok
 unfold ExprC at h
 obtain ⟨la,lc,aa,ac,rfl,hli,ha⟩ := h
 exact replace_walk f m B k nm n ls xs la lc aa ac w hli ha hm hB hok.lens.1 hok.lens.2 (fun y cs w' _ hy hb hx => copy_c B y cs w' hx (Nat.le_trans hB hb.size) (hf _ _ hy))
  (fun i hi cs w' hb hx => ih _ (List.getElem_mem hi) cs w' hx (hm.keep fun q (hq : q < B) hl => ⟨hq,hb.block q hl⟩) (Nat.le_trans hB hb.size) (hok.arg (List.getElem_mem hi)))
end Go.Proofs.YtaddcadapbpkfaaGreatDoor
namespace Go.Proofs.YtaddcadapbpkfaaGreatDoor
open Go.RowKit Pln
theorem append_exprs (x : E) (vs : List E) (cx : List Value) (va : Option Addr) (vc nb : Nat) (F : Nat -> Prop) (W : World) (hx : ExprC W F x cx) (hnb : W.heap[nb]? = some (.cells cx.toArray 25 (0,0))) (hv : ArgsAt W F va vs) (hl : vs.length <= 1000000) :
 ∃ (A' : Option Addr) (c' : Nat) (w' : World),(Builtin.append_ #[23,23] 23 #[.slice (some ⟨nb,0,none⟩) 1 1,.slice va vs.length vc]).run Tryz.prog W = .ok (.slice A' (vs.length + 1) c') w' /\ Below W.heap.size W w' /\ ArgsAt w' (fun _ => True) A' (x :: vs) := by
 obtain ⟨i0,hi,hz0,hz1,hz2⟩ := info_parts infoExprE
 have hr0 : W.rangeAt nb 0 cx := qaB hnb
 by_cases h0 : vs.length = 0
 . have : vs = [] := List.eq_nil_of_length_eq_zero h0
   subst this
   refine ⟨some ⟨nb,0,none⟩,1,W,?_,Below.refl _ _,fun _ => ⟨nb,0,rfl,trivial,?_⟩⟩
   . cases va <;> simp [Builtin.append_,run_underlying Tryz.underlying23,sizeOf,typeInfo,hi,Builtin.lenOf,Builtin.firstCells,storeCells,loadCells,loadCellsFrom]
   . unfold ExprsC ExprsC
     exact ⟨⟨cx,hr0,ExprC.mono (fun q _ _ => ⟨trivial,rfl⟩) _ _ hx⟩,trivial⟩
 . obtain ⟨b,o,rfl,hb,hc⟩ := hv (by omega)
   obtain ⟨fl,hf,hr⟩ := exprs_cells hc
   obtain ⟨v',w',hrun,hown,hg⟩ := run_append_arg_grows (P := Tryz.prog) W 23 23 25 i0 _ 5 80 Tryz.underlying23 hi hz0 hz1 hz2 rfl (by decide) ⟨nb,0,none⟩ 1 1 cx hx.len (fun j u hj => by rw [Addr.add_mid];exact hr0 j u hj) ⟨b,o,none⟩ vs.length vc fl hf.len (fun j u hj => by rw [Addr.add_mid];exact hr j u hj) (by omega) (by unfold maxLen;omega) (by omega)
   obtain ⟨g,cap,rfl,hlo,hlt⟩ := hown.form (by omega)
   have hbw : Below W.heap.size W w' := ⟨hg.os,hg.tape,hg.output,hg.size,fun k hk => hg.block k hk (by simp)⟩
   have hF : ∀ q,F q -> q < W.heap.size -> True /\ w'.heap[q]? = W.heap[q]? := fun q _ hq => ⟨trivial,hbw.block q hq⟩
   refine ⟨some ⟨g,0,none⟩,cap,w',by rw [hrun,Nat.add_comm],hbw,fun _ => ⟨g,0,rfl,trivial,CellsOf.exprs 0 (xs := cx ++ fl) ⟨cx,fl,rfl,ExprC.mono hF _ _ hx,CellsOf.mono hF hf⟩ fun j u hj => ?_⟩⟩
   have := hown.cells (g := g) rfl j u hj
   rw [Addr.add_mid] at this
   exact this
theorem wpList_app {P : Program} {ops : Array Oper} {rest : List Oper} {o : Oper} {a : Act} {w : World} {Q : Exit -> Act -> World -> Prop} (hgd : o.guard = none) (s x : Operand) (t : TypeId) (ho : o.op = .call { callee := .builtin .append,args := #[s,x],argTypes := #[t,t] }) {v1 v2 v : Value} {w' : World} (hs : a.eval s = v1) (hx : a.eval x = v2)
 (hr : (Builtin.append_ #[t,t] o.type #[v1,v2]).run P w = .ok v w') (h : wpList P ops Q rest (a.put o.dst v) w') : wpList P ops Q (o :: rest) a w :=
 wpList_plain hgd fun K hK => by
  unfold Oper.wp execOp
  simp only [ho,resolve,invoke,builtin,Sem.run_bind,Sem.run_pure,Result.andThen_ok,List.map_toArray,List.map_cons,List.map_nil,hs,hx,hr]
  exact hK _ _ h
end Go.Proofs.YtaddcadapbpkfaaGreatDoor
