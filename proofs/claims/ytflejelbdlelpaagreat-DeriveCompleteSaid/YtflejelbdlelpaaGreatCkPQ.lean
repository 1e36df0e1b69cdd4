/-
 DeriveComplete, for every input: the law returns true and its arguments read as they did. Printed by mkck.py.
-/
import Derived.Test.YtflejelbdlelpaaGreatR43
set_option maxRecDepth 100000
set_option maxHeartbeats 8000000
namespace Go.Proofs.YtflejelbdlelpaaGreat
open Go.ChangeShapes Go.WideShapes Go.ChangeAt Go.RowKit Go.Deep Go.Proofs.Tryz
section
variable {H:Type} {enc:TypeId × Value->H} {w:Wo} {base:Nat} {spare:Nat->Bool} {held:Bool}
theorem code_cells2{l:Nat}{cs:List Value}{x:DataW H × List MemPlace}(o:cs.length=5)(h:DataW.trod enc prog w base spare held l 27 cs=some x):
 ∃(p m:Int)(mod:LI)(Am:OA)(cm:Nat)(n:Int)(gen:List LI)(Ag:OA)(cg:Nat),cs=(C3 p m Am mod.length cm n Ag gen.length cg)/\mod.length<=maxLen/\gen.length<=maxLen/\gen.length<=cg/\zI w Am mod/\zR w Ag gen:=by
 match cs,o with
 |[c0,c1,c2,c3,c4],_=>
   obtain⟨_,_,_,c⟩:=qaU underlying27 h 0 24 0 3 rfl cellsField
   obtain⟨_,_,_,d⟩:=qaU underlying27 h 1 3 3 1 rfl cellsInt
   obtain⟨_,_,_,f⟩:=qaU underlying27 h 2 25 4 1 rfl cellsRows
   obtain⟨p,m,mod,Am,cm,rfl,rfl,rfl,j,g⟩:=field_cells c
   obtain⟨n,rfl⟩:=qbT d
   obtain⟨gen,Ag,cg,rfl,k,b,i⟩:=rows_cell f
   exact⟨p,m,mod,Am,cm,n,gen,Ag,cg,rfl,j,k,b,g,i⟩
end
theorem deriveComplete_contract(H:Type)(enc:TypeId × Value->H)(W:Wo)(base:Nat)(args:Array Value)(ds gs:List (DataW H))(af:List MemPlace)(ae:∀ (j:Nat) t v,f3.params[j]?=some t->args[j]?=some v->Value.okWide prog W .any base t v)(hW:DataW.Whole enc prog f3.params.toList Rows.deriveCompleteSpec.vars false W args.toList ds gs af):
 zC 3 args W fun e W'=>∃v,e=.returned v/\Rows.deriveCompleteSpec.post enc prog f3 false true false false W args v W':=by
 have d:=hW;obtain⟨p,q,g,X,rfl,aa,ab⟩:=hW;have L:DataW.TrodAll enc prog W 0 (fun _=>true) true f3.params.toList args.toList ds p:=g;rw[params3] at L ae;obtain⟨P,ac,d0,R,M,q0,r,rfl,rfl,J,r0⟩:=trodAll_cons L;obtain⟨Q,ad,d1,S,O,q1,f,rfl,rfl,T,r1⟩:=trodAll_cons r0;obtain⟨rfl,rfl,rfl⟩:=trodAll_nil r1;subst f;obtain rfl:args=#[P,Q]:=by cases args;simp_all
 obtain⟨rfl,rfl⟩:=trodVars_none X;simp only[List.append_nil] at d;have k:=J;have l:=T;have h:∀x∈M,x.block<W.heap.size:=fun x hx=>by simpa using d.lt x (by simp[hx])
 have i:∀x∈O,x.block<W.heap.size:=fun x hx=>by simpa using d.lt x (by simp[hx])
 obtain⟨cs,rfl,z⟩:=okWide_struct underlying27 (ae 0 27 P rfl rfl);obtain⟨I,Z⟩:=J;obtain⟨p,m,mod,D,E,N,zs,A,c,u,y,C,B,U,V⟩:=code_cells2 (cs:=cs.toList) (by rw[Array.length_toList,z];kernel_rfl) Z;obtain⟨low,rfl⟩:=okWide_int underlying3 (ae 1 3 Q rfl rfl);clear g;have s:cs=(Cb p m D mod.length E N A zs.length c):=by rw[<- Array.toArray_toList (xs:=cs),u]
 have b:zC 3 #[.agg cs,Y low] W (TruePost W):=by rw[s];exact complete_c p m mod D E N zs A c low W U y V C B
 refine b.mono fun e W' ⟨he,hb⟩=>?_;subst he
 exact ⟨_,rfl,post_of_below (pa:=M++O) (pv:=[]) d (fun _ _ _=>trodAll_cons_mk (shut_bool underlying4 _) trodAll_mk0)
  (fun sp hsp=>by
    have n:=WideElems.Trod_stays (sp':=sp) laidOut U1 (of_decide_eq_true U1) k (fun x hx=>hb.same (h x hx)) (fun x hx=>hsp x (by simp[hx]))
    have o:=WideElems.Trod_stays (sp':=sp) laidOut U1 (of_decide_eq_true U1) l (fun x hx=>hb.same (i x hx)) (fun x hx=>hsp x (by simp[hx]))
    have K:=trodAll_cons_mk n (trodAll_cons_mk o trodAll_mk0)
    rw[List.append_nil] at K
    exact K) (fun _ _=>rfl) U2
  hb (ok_one U1 rfl (okWide_bool_mk underlying4 _))⟩
noncomputable def bareWorld(os:Os):Wo:=World.holding prog os ⟨#[],#[],[]⟩
theorem deriveComplete_reads(b:Os){H:Type}(enc:TypeId × Value->H):∃places,DataW.whole enc prog ((bareWorld b).forCall (fun _ _=>0) ⟨#[],#[.agg #[.int .i64 0,.int .i64 0,.slice none 0 0,.int .i64 0,.slice none 0 0],.int .i64 0],[]⟩).memory f3.params.toList Rows.deriveCompleteSpec.vars false #[.agg #[.int .i64 0,.int .i64 0,.slice none 0 0,.int .i64 0,.slice none 0 0],.int .i64 0].toList 8=some ([.agg [.agg [.lit (.int .i64 0),.lit (.int .i64 0),.nil],.lit (.int .i64 0),.nil],.lit (.int .i64 0)],[],places):=
 ⟨[],U1⟩
theorem deriveComplete_lifted(m:Os)(l:m.Started)(H:Type)(enc:TypeId × Value->H)(F:Stop.Interp):
 ReturnsInHanded {} checked m 3 .any ((OpenSpec.ofChange Rows.deriveCompleteSpec).preRow enc prog f3 Rows.deriveCompleteRow.domain false Rows.deriveCompleteRow.laid) (((OpenSpec.ofChange Rows.deriveCompleteSpec).at F).post enc prog f3 false true false false):=by
 obtain⟨f,j⟩:=deriveComplete_reads m enc
 refine returnsInHanded_of_row (C:=checked) (s:=OpenSpec.ofChange Rows.deriveCompleteSpec) own l U1 func3
  (witness_row_at (enc:=enc) (C:=checked) false (bareWorld m) #[.agg #[Y 0,Y 0,zL none 0 0,Y 0,zL none 0 0],Y 0] rfl U1 U1 U1
    (OpenSpec.preRow_of_cond 8 j U1 (fun k hk=>by cases hk) U1 (laidMet_nil _ _))) ?_
 intro W base c g h b d i _ _ _ _ _ _;exact deriveComplete_contract H enc W base c g h b d i
theorem deriveComplete_said:Rows.DeriveCompleteSaid:=
 OpenClaim.holds_of_cond 3 f3 rfl rfl rfl rfl rfl rfl rfl ⟨rfl,rfl,rfl,rfl,rfl⟩ rfl rfl rfl rfl rfl U1 func3 U1
  (of_decide_eq_true U1) (by unfold Func.isWrapper;first|(rw[if_pos dk];kernel_rfl)|(rw[if_neg dk];exact⟨rfl,rfl⟩))
  (fun os started H enc _ F=>by rw[OpenClaim.pre_eq_preRow];exact deriveComplete_lifted os started H enc F)
end Go.Proofs.YtflejelbdlelpaaGreat
