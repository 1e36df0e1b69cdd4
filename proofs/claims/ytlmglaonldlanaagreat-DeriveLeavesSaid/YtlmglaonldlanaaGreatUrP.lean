/-
 DeriveLeaves, for every input: the law returns true and its arguments read as they did. Printed by mkur.py.
-/
import Derived.Test.YtlmglaonldlanaaGreatQ48
import Derived.Test.YtlmglaonldlanaaGreatQ50
import Derived.Test.YtlmglaonldlanaaGreatQ51
namespace Go.Proofs.YtlmglaonldlanaaGreat
open Go.ChangeShapes Go.WideShapes Go.ChangeAt Go.RowKit
set_option maxHeartbeats 2000000 in
set_option maxRecDepth 100000 in
theorem leaves_c (h3:ThreeOk) (hlaw:LeafLaw) (ds:List StD) (A:Option Addr) (c:Nat) (i:Int) (zs:List Int) (Az:Option Addr) (cz:Nat) (w:World) (hA:StsE w w.heap.size A ds) (hk:∀ d∈ds,d.ok) (hl:ds.length<=maxLen)
 (hz:IntsAt w w.heap.size Az zs) (hzl:zs.length<=maxLen) :
 Calls Tryz.prog 3 #[.slice A ds.length c,.int .i64 i,.slice Az zs.length cz] w (LocPost w):=by
 have hb:Below w.heap.size w (w.alloc (.cells #[.int .i64 0,.int .i64 1,.int .i64 2,.int .i64 3] 3)):=(Below.refl _ _).alloc (Nat.le_refl _) _
 have hk4:(w.alloc (.cells #[.int .i64 0,.int .i64 1,.int .i64 2,.int .i64 3] 3)).heap[w.heap.size]?=some (.cells #[.int .i64 0,.int .i64 1,.int .i64 2,.int .i64 3] 3 (0,0)):=heap_alloc_new _ _
 have HB:=Lib.hid hb
 have HL:=Lib.hid (local_l h3 hlaw ds A c i zs Az cz w.heap.size 4 (w.alloc (.cells #[.int .i64 0,.int .i64 1,.int .i64 2,.int .i64 3] 3)) ((hA.keep hb).more hb.size) hk hl ((hz.keep hb).more hb.size) hzl (qbE hk4) (fun j hj=>by
  rcases j with _ | _ | _ | _ | j
  . exact cell_of_row _ _ 0 _ _ _ hk4
  . exact cell_of_row _ _ 1 _ _ _ hk4
  . exact cell_of_row _ _ 2 _ _ _ hk4
  . exact cell_of_row _ _ 3 _ _ _ hk4
  . omega))
 clear hA hk hz hb hk4 h3 hlaw
 go_enter Tryz.func3,Tryz.ntmps3
 go_wp2_with fail
 refine HL.out.mono ?_
 rintro e w' ⟨rfl,hb⟩
 have HB2:=Lib.hid (HB.out.trans (hb.mono HB.out.size))
 clear hb HL HB
 go_wp2_with fail
 go_ret
 exact ⟨rfl,HB2.out⟩
set_option maxRecDepth 100000 in
theorem deriveLeaves_contract (H:Type) (enc:TypeId × Value->H) (W:World) (base:Nat) (args:Array Value) (ds gs:List (DataW H)) (before:List MemPlace)
 (hval:∀ (j:Nat) t v,Tryz.f3.params[j]?=some t->args[j]?=some v->Value.okWide Tryz.prog W .any base t v)
 (hW:DataW.Whole enc Tryz.prog Tryz.f3.params.toList Rows.deriveLeavesSpec.vars false W args.toList ds gs before) :
 Calls Tryz.prog 3 args W fun e W'=>∃ v,e=.returned v/\Rows.deriveLeavesSpec.post enc Tryz.prog Tryz.f3 false true false false W args v W':=by
 have hW':=hW
 obtain ⟨p,q,hA0,hV,rfl,hfz,hnd⟩:=hW
 have hA:DataW.TrodAll enc Tryz.prog W 0 (fun _=>true) true Tryz.f3.params.toList args.toList ds p:=hA0
 rw [Tryz.params3] at hA hval
 obtain ⟨v0,vs0,d0,ds0,p0,q0,hargs,rfl,rfl,h0,r0⟩:=trodAll_cons hA
 obtain ⟨v1,vs1,d1,ds1,p1,q1,hargs1,rfl,rfl,h1,r1⟩:=trodAll_cons r0
 obtain ⟨v2,vs2,d2,ds2,p2,q2,hargs2,rfl,rfl,h2,r2⟩:=trodAll_cons r1
 obtain ⟨rfl,rfl,rfl⟩:=trodAll_nil r2
 subst hargs2
 subst hargs1
 obtain rfl:args=#[v0,v1,v2]:=by cases args;simp_all
 obtain ⟨rfl,rfl⟩:=trodVars_none hV
 simp only [List.append_nil] at hW'
 have h0k:=h0
 have h1k:=h1
 have h2k:=h2
 have hlt0:∀ x∈p0,x.block<W.heap.size:=fun x hx=>by simpa using hW'.lt x (by simp [hx])
 have hlt1:∀ x∈p1,x.block<W.heap.size:=fun x hx=>by simpa using hW'.lt x (by simp [hx])
 have hlt2:∀ x∈p2,x.block<W.heap.size:=fun x hx=>by simpa using hW'.lt x (by simp [hx])
 have hc0:v0.cells=#[v0]:=by
  have hv:=hval 0 22 v0 rfl rfl
  unfold Value.okWide at hv
  rw [Tryz.underlying22] at hv
  cases v0 <;> first | rfl | (simp [Cell.okWide,Cell.ok,Tryz.underlying22] at hv)
 have hc2:v2.cells=#[v2]:=by
  have hv:=hval 2 23 v2 rfl rfl
  unfold Value.okWide at hv
  rw [Tryz.underlying23] at hv
  cases v2 <;> first | rfl | (simp [Cell.okWide,Cell.ok,Tryz.underlying23] at hv)
 obtain ⟨A,sts,c,rfl,hl,hst,hok⟩:=steps_openE h0 hc0
 obtain ⟨i,rfl⟩:=okWide_int Tryz.underlying3 (hval 1 3 v1 rfl rfl)
 obtain ⟨fuel2,hf2⟩:=h2
 rw [hc2] at hf2
 obtain ⟨zs,Az,cz,rfl,hzl,hz⟩:=qdF hf2
 clear hA0
 have hcall:=leaves_c three_c (fun s bl msg h1 h2 _ h4=>leaf_law s bl msg h1 h2 h4) sts A c i zs Az cz W hst hok hl hz hzl
 refine hcall.mono fun e W' ⟨he,hb⟩=>?_
 subst he
 exact ⟨_,rfl,post_of_below (pa:=p0++(p1++p2)) (pv:=[]) hW' (fun _ _ _=>trodAll_cons_mk (shut_bool Tryz.underlying4 _) trodAll_mk0)
  (fun sp hsp => by
    have hT0:=WideElems.Trod_stays (sp':=sp) laidOut (by kernel_rfl) (of_decide_eq_true (by kernel_rfl)) h0k (fun x hx=>hb.same (hlt0 x hx)) (fun x hx=>hsp x (by simp [hx]))
    have hT1:=WideElems.Trod_stays (sp':=sp) laidOut (by kernel_rfl) (of_decide_eq_true (by kernel_rfl)) h1k (fun x hx=>hb.same (hlt1 x hx)) (fun x hx=>hsp x (by simp [hx]))
    have hT2:=WideElems.Trod_stays (sp':=sp) laidOut (by kernel_rfl) (of_decide_eq_true (by kernel_rfl)) h2k (fun x hx=>hb.same (hlt2 x hx)) (fun x hx=>hsp x (by simp [hx]))
    have h3:=trodAll_cons_mk hT0 (trodAll_cons_mk hT1 (trodAll_cons_mk hT2 trodAll_mk0))
    rw [List.append_nil] at h3
    exact h3) (fun _ _=>rfl) (by simp)
  hb (ok_one (by kernel_rfl) rfl (okWide_bool_mk Tryz.underlying4 _))⟩
noncomputable def bareWorld (os:Os):World:=World.holding Tryz.prog os ⟨#[],#[],[]⟩
theorem deriveLeaves_reads (os:Os) {H:Type} (enc:TypeId × Value->H):∃ places,DataW.whole enc Tryz.prog ((bareWorld os).forCall (fun _ _=>0) ⟨#[],#[.slice none 0 0,.int .i64 0,.slice none 0 0],[]⟩).memory Tryz.f3.params.toList Rows.deriveLeavesSpec.vars false #[.slice none 0 0,.int .i64 0,.slice none 0 0].toList 8=some ([.nil,.lit (.int .i64 0),.nil],[],places) :=
 ⟨[],by kernel_rfl⟩
set_option maxRecDepth 100000 in
theorem deriveLeaves_lifted (os:Os) (started:os.Started) (H:Type) (enc:TypeId × Value->H) (F:Stop.Interp) :
 ReturnsInHanded {} Tryz.checked os 3 .any ((OpenSpec.ofChange Rows.deriveLeavesSpec).preRow enc Tryz.prog Tryz.f3 Rows.deriveLeavesRow.domain false Rows.deriveLeavesRow.laid) (((OpenSpec.ofChange Rows.deriveLeavesSpec).at F).post enc Tryz.prog Tryz.f3 false true false false):=by
 obtain ⟨places,hx⟩:=deriveLeaves_reads os enc
 refine returnsInHanded_of_row (C:=Tryz.checked) (s:=OpenSpec.ofChange Rows.deriveLeavesSpec) own started (by kernel_rfl) Tryz.func3
  (witness_row_at (enc := enc) (C := Tryz.checked) false (bareWorld os) #[.slice none 0 0,.int .i64 0,.slice none 0 0] rfl (by kernel_rfl) (by kernel_rfl) (by kernel_rfl)
    (OpenSpec.preRow_of_cond 8 hx (by kernel_rfl) (fun k hk=>by cases hk) (by kernel_rfl) (laidMet_nil _ _))) ?_
 intro W base args ds gs before hval hW _ _ _ _ _ _
 exact deriveLeaves_contract H enc W base args ds gs before hval hW
theorem deriveLeaves_said:Rows.DeriveLeavesSaid :=
 OpenClaim.holds_of_cond 3 Tryz.f3 rfl rfl rfl rfl rfl rfl rfl ⟨rfl,rfl,rfl,rfl,rfl⟩ rfl rfl rfl rfl rfl (by kernel_rfl) Tryz.func3 (by kernel_rfl)
  (of_decide_eq_true (by kernel_rfl)) (by unfold Func.isWrapper;first | (rw [if_pos (by decide +kernel)];kernel_rfl) | (rw [if_neg (by decide +kernel)];exact ⟨rfl,rfl⟩))
  (fun os started H enc _ F=>by rw [OpenClaim.pre_eq_preRow];exact deriveLeaves_lifted os started H enc F)
end Go.Proofs.YtlmglaonldlanaaGreat
