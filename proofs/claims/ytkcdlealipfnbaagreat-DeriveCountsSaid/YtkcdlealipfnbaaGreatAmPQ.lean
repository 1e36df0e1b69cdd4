/-
 DeriveCounts, for every input: the law returns true and its arguments read as they did. Printed by mkam.py.
-/
import Derived.Test.YtkcdlealipfnbaaGreatR43
set_option maxRecDepth 100000
set_option maxHeartbeats 8000000
namespace Go.Proofs.YtkcdlealipfnbaaGreat
open Go.ChangeShapes Go.WideShapes Go.ChangeAt Go.RowKit Go.Proofs.Tryz
theorem deriveCounts_contract(H:Type)(enc:TypeId × Value->H)(W:Wo)(base:Nat)(args:Array Value)(ds gs:List (DataW H))(aj:List MemPlace)(ai:∀ (j:Nat) t v,f3.params[j]?=some t->args[j]?=some v->Value.okWide prog W .any base t v)(hW:DataW.Whole enc prog f3.params.toList Rows.deriveCountsSpec.vars false W args.toList ds gs aj):
 zC 3 args W fun e W'=>∃v,e=.returned v/\Rows.deriveCountsSpec.post enc prog f3 false true false false W args v W':=by
 have b:=hW;obtain⟨p,q,k,hV,rfl,ad,ae⟩:=hW;have R:DataW.TrodAll enc prog W 0 (fun _=>true) true f3.params.toList args.toList ds p:=k;rw[params3] at R ai;obtain⟨r,af,d0,aa,S,q0,I,rfl,rfl,O,r0⟩:=trodAll_cons R;obtain⟨V,ag,d1,ab,T,q1,d,rfl,rfl,h1,r1⟩:=trodAll_cons r0;obtain⟨s,ah,d2,ac,U,q2,f,rfl,rfl,P,r2⟩:=trodAll_cons r1;obtain⟨rfl,rfl,rfl⟩:=trodAll_nil r2;subst f;subst d;obtain rfl:args=#[r,V,s]:=by cases args;simp_all
 obtain⟨rfl,rfl⟩:=trodVars_none hV;simp only[List.append_nil] at b;have y:=O;have z:=h1;have B:=P;have m:∀x∈S,x.block<W.heap.size:=fun x hx=>by simpa using b.lt x (by simp[hx])
 have n:∀x∈T,x.block<W.heap.size:=fun x hx=>by simpa using b.lt x (by simp[hx])
 have o:∀x∈U,x.block<W.heap.size:=fun x hx=>by simpa using b.lt x (by simp[hx])
 have J:r.cells=#[r]:=by have h:=ai 0 22 r rfl rfl;unfold Value.okWide at h;rw[underlying22] at h;cases r<;>first|rfl|(simp[Cell.okWide,Cell.ok,underlying22] at h)
 have K:s.cells=#[s]:=by have h:=ai 2 23 s rfl rfl;unfold Value.okWide at h;rw[underlying23] at h;cases s<;>first|rfl|(simp[Cell.okWide,Cell.ok,underlying23] at h)
 obtain⟨A,sts,c,rfl,hl,M,L⟩:=steps_open O J;obtain⟨i,rfl⟩:=okWide_int underlying3 (ai 1 3 V rfl rfl);obtain⟨u,l⟩:=P;rw[K] at l;obtain⟨zs,X,Z,rfl,N,hz⟩:=ints_cell l;clear k;have g:=counts_c three_c sts A c i zs X Z W M L hl hz N;refine g.mono fun e W' ⟨he,hb⟩=>?_;subst he
 exact ⟨_,rfl,post_of_below (pa:=S++(T++U)) (pv:=[]) b (fun _ _ _=>trodAll_cons_mk (shut_bool underlying4 _) trodAll_mk0)
  (fun sp hsp=>by
    have C:=WideElems.Trod_stays (sp':=sp) laidOut U1 (of_decide_eq_true U1) y (fun x hx=>hb.same (m x hx)) (fun x hx=>hsp x (by simp[hx]))
    have D:=WideElems.Trod_stays (sp':=sp) laidOut U1 (of_decide_eq_true U1) z (fun x hx=>hb.same (n x hx)) (fun x hx=>hsp x (by simp[hx]))
    have E:=WideElems.Trod_stays (sp':=sp) laidOut U1 (of_decide_eq_true U1) B (fun x hx=>hb.same (o x hx)) (fun x hx=>hsp x (by simp[hx]))
    have Q:=trodAll_cons_mk C (trodAll_cons_mk D (trodAll_cons_mk E trodAll_mk0))
    rw[List.append_nil] at Q
    exact Q) (fun _ _=>rfl) U2
  hb (ok_one U1 rfl (okWide_bool_mk underlying4 _))⟩
noncomputable def bareWorld(os:Os):Wo:=World.holding prog os ⟨#[],#[],[]⟩
theorem deriveCounts_reads(b:Os){H:Type}(enc:TypeId × Value->H):∃places,DataW.whole enc prog ((bareWorld b).forCall (fun _ _=>0) ⟨#[],#[zL none 0 0,Y 0,zL none 0 0],[]⟩).memory f3.params.toList Rows.deriveCountsSpec.vars false #[zL none 0 0,Y 0,zL none 0 0].toList 8=some ([.nil,.lit (.int .i64 0),.nil],[],places):=
 ⟨[],U1⟩
theorem deriveCounts_lifted(m:Os)(l:m.Started)(H:Type)(enc:TypeId × Value->H)(F:Stop.Interp):
 ReturnsInHanded {} checked m 3 .any ((OpenSpec.ofChange Rows.deriveCountsSpec).preRow enc prog f3 Rows.deriveCountsRow.domain false Rows.deriveCountsRow.laid) (((OpenSpec.ofChange Rows.deriveCountsSpec).at F).post enc prog f3 false true false false):=by
 obtain⟨f,j⟩:=deriveCounts_reads m enc
 refine returnsInHanded_of_row (C:=checked) (s:=OpenSpec.ofChange Rows.deriveCountsSpec) own l U1 func3
  (witness_row_at (enc:=enc) (C:=checked) false (bareWorld m) #[zL none 0 0,Y 0,zL none 0 0] rfl U1 U1 U1
    (OpenSpec.preRow_of_cond 8 j U1 (fun k hk=>by cases hk) U1 (laidMet_nil _ _))) ?_
 intro W base c g h b d i _ _ _ _ _ _;exact deriveCounts_contract H enc W base c g h b d i
theorem deriveCounts_said:Rows.DeriveCountsSaid:=
 OpenClaim.holds_of_cond 3 f3 rfl rfl rfl rfl rfl rfl rfl ⟨rfl,rfl,rfl,rfl,rfl⟩ rfl rfl rfl rfl rfl U1 func3 U1
  (of_decide_eq_true U1) (by unfold Func.isWrapper;first|(rw[if_pos dk];kernel_rfl)|(rw[if_neg dk];exact⟨rfl,rfl⟩))
  (fun os started H enc _ F=>by rw[OpenClaim.pre_eq_preRow];exact deriveCounts_lifted os started H enc F)
end Go.Proofs.YtkcdlealipfnbaaGreat
