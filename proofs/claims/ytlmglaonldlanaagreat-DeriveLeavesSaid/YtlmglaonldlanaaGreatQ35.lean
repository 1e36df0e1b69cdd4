/-
 GF.Elements; poly.Roots.
-/
import Derived.Test.YtlmglaonldlanaaGreatQ33
import Derived.Test.YtlmglaonldlanaaGreatQ34
import Derived.RangeFuncFrom
import Derived.RangeFuncCalls
import Derived.RangeFuncBox
import Derived.RangeFuncLeaves
import Derived.WalkKit
import Derived.OwnWalkIn
import Derived.TacticsInMore
import Derived.RangeFuncBound
import Derived.LoopNIn
import Derived.LoopIn
import Derived.Shelf.Abstract
import Derived.ControlIn
namespace Go.Proofs.YtlmglaonldlanaaGreat
open Go.RowKit Pln
abbrev Elt (q:Nat):={ x:Nat // x<q }
def eltV (q:Nat) (x:Elt q):Array Value:=#[.int .i64 (x.1:Int)]
set_option maxHeartbeats 2000000 in
set_option maxRecDepth 100000 in
theorem elems_stops (q Bg gb:Nat) (hq:q<=256) (w:World) (hB:Bg<w.heap.size) (hg:gb<w.heap.size) (h1:w.cell? ⟨Bg,0,none⟩=some (.pointer (some ⟨gb,0,none⟩))) (h2:w.cell? ⟨gb,3,none⟩=some (.int .i64 (q:Int))) :
 SeqStopsK Fence.wide 2 Tryz.prog 236 #[.pointer (some ⟨Bg,0,none⟩)] (eltV q) (fun _ _=>True) (fun _=>True) (fun _=>True) q w:=by
 intro l J Jx W hW hJ hJx hY h0
 have c1:W.cell? ⟨Bg,0,none⟩=some (.pointer (some ⟨gb,0,none⟩)):=(hW.cell (p:=⟨Bg,0,none⟩) hB).trans h1
 have c2:W.cell? ⟨gb,3,none⟩=some (.int .i64 (q:Int)):=(hW.cell (p:=⟨gb,3,none⟩) hg).trans h2
 have HY:=Lib.hid hY
 clear hY h1 h2 hJ hJx
 refine callsIn_of_wp Tryz.func236 rfl trivial ?_
 simp only [Tryz.ntmps236,List.size_toArray,List.length_cons,List.length_nil,Nat.reduceAdd,Nat.reduceSub,Array.replicate_succ,Array.replicate_zero,List.push_toArray,List.append_toArray,List.nil_append,List.cons_append]
 gi_wp2
 gi_loopw [8] (fun v8 wr=>∃ (k:Nat) (pre:List (Elt q)),k<=q/\v8=.int .i64 k/\pre.length=k/\J pre wr) (fun v8 _=>q-(intOf v8).toNat)
 case atStart=>exact ⟨0,[],by omega,rfl,rfl,h0⟩
 case round =>
  obtain ⟨k,pre,hk,rfl,hl,hj⟩:=hrel
  by_cases hlt:k<q
  . obtain ⟨fn,tmps,assign,body,hy,hR⟩ := HY.out pre ⟨k,hlt⟩ wr hj (by omega)
    dsimp only [eltV] at hy
    have k0:(k:Int)<(q:Int):=by omega
    have hw1:IntKind.i64.wrap ((k:Int)+1)=(k:Int)+1:=IntWalk.i64_in _ (by omega)
    gi_wp2
    refine hR.mono ?_
    rintro e W3 (⟨rfl,hJ3,_⟩ | ⟨rfl,hJx3⟩)
    . gi_wp2
      go_roundw
      case rel=>exact ⟨k+1,pre++[⟨k,hlt⟩],by omega,by go_num,by simp [hl],hJ3⟩
      case measure=>simp [intOf];omega
    . gi_wp2
      refine bodyPost_ret (results_none rfl _ _ _) rfl ?_
      exact ⟨⟨_,rfl⟩,.inr ⟨_,trivial,hJx3⟩⟩
  . obtain rfl : k = q := by omega
    gi_wp2
    go_end0
    exact ⟨⟨_,rfl⟩,.inl ⟨_,trivial,hj⟩⟩
set_option maxRecDepth 100000 in
theorem elements_f (v:Value) (w:World) (hv:v=.pointer none\/∃ b,v=.pointer (some ⟨b,0,none⟩)) :
 Calls Tryz.prog 206 #[v] w fun e w'=>e=.returned (.func (.func 236) #[] #[.pointer (some ⟨w.heap.size,0,none⟩)])/\w'=w.alloc (.cells #[v] 100):=by
 rcases hv with rfl | ⟨b,rfl⟩
 . go_enter Tryz.func206,Tryz.ntmps206
   go_wp2_with fail
   go_ret
   exact ⟨rfl,rfl⟩
 . go_enter Tryz.func206,Tryz.ntmps206
   go_wp2_with fail
   go_ret
   exact ⟨rfl,rfl⟩
theorem qcP (W:World) (n:Nat):KeepsOthers W (W.drewN n):=⟨Nat.le_refl _,fun _ _ h _=>h⟩
theorem Num.other {w w2:World} {B:Nat} {v:Value} {l:List Nat} {row:Option Nat} (h:Num w B v l) (hg:w.grownBy w2 row) (hne:∀ b,v.ownBlock=some b->row≠some b):Num w2 B v l :=
 World.ownsRow.kept h hg (by
  cases hv:v.ownBlock with
  | none=>exact .inl rfl
  | some b=>exact .inr (fun e=>hne b hv e.symm))
theorem Num.cells {w:World} {B:Nat} {v:Value} {l:List Nat} (h:Num w B v l) {b:Nat} (hv:v.ownBlock=some b):∃ cs fr,w.heap[b]?=some (.cells cs 3 fr)/\B<=b:=by
 rcases h.2 with ⟨e,_⟩ | ⟨g,cap,cur,e,_,hh,_⟩
 . rw [e] at hv
   cases hv
 . subst e
   injection hv with hv
   subst hv
   exact ⟨_,_,hh,(World.ownsRow.lt h g rfl).1⟩
theorem Num.ne {w:World} {B:Nat} {v:Value} {l:List Nat} (h:Num w B v l) {b b':Nat} (hv:v.ownBlock=some b) {cs:Array Value} {t:TypeId} {fr:Nat × Nat} (hb:w.heap[b']?=some (.cells cs t fr)) (ht:t≠3):b≠b':=fun e=>by
 subst e
 obtain ⟨cs',fr',hh,_⟩:=h.cells hv
 rw [hb] at hh
 injection hh with hh
 injection hh with _ hh _
 exact ht hh
theorem Row.same {w w':World} {B g c:Nat} {zs:List Int} (h:Row w B g c zs) (hb:w'.heap[g]?=w.heap[g]?):Row w' B g c zs:=by
 obtain ⟨cur,h1,h2,h3,h4⟩:=h.cur
 exact h4 w' cur zs (hb.trans h1) rfl rfl h3
theorem rowNe {w:World} {B:Nat} {row:Option Nat} (hr:∀ r,row=some r->B<=r/\∃ o:Obj,w.heap[r]?=some o/\o.isCells=false) {b:Nat} {cs:Array Value} {t:TypeId} {fr:Nat × Nat} (hb:w.heap[b]?=some (.cells cs t fr)):row≠some b:=fun e=>by
 obtain ⟨_,o,ho,hc⟩:=hr b e
 rw [hb] at ho
 injection ho with ho
 subst ho
 cases hc
structure RtI (w:World) (B2 B6 B7 gb gs:Nat) (O:Ops) (v:List Nat) (q n:Nat) (W:World):Prop where
 b2:W.cell? ⟨B2,0,none⟩=some (.pointer (some ⟨gb,0,none⟩))
 b6:W.heap[B6]?=some (.cells #[.slice (some ⟨gs,0,none⟩) v.length v.length] 23 (0,0))
 row:Row W w.heap.size gs v.length (nz v)
 out:∃ (u:Value) (rs:List Nat),W.heap[B7]?=some (.cells #[u] 23 (0,0))/\Num W B6 u rs/\(∀ r∈rs,r<q/\evN O v r=0)/\rs.length<=n
 low:Below w.heap.size w W
theorem RtI.mono {w:World} {B2 B6 B7 gb gs:Nat} {O:Ops} {v:List Nat} {q n n':Nat} {W:World} (h:RtI w B2 B6 B7 gb gs O v q n W) (hn:n<=n'):RtI w B2 B6 B7 gb gs O v q n' W:=by
 obtain ⟨u,rs,h1,h2,h4,h5⟩:=h.out
 exact ⟨h.b2,h.b6,h.row,⟨u,rs,h1,h2,h4,by omega⟩,h.low⟩
theorem RtI.drewN {w:World} {B2 B6 B7 gb gs:Nat} {O:Ops} {v:List Nat} {q n:Nat} {W:World} (h:RtI w B2 B6 B7 gb gs O v q n W) (k:Nat):RtI w B2 B6 B7 gb gs O v q n (W.drewN k):=by
 obtain ⟨u,rs,h1,h2,h4,h5⟩:=h.out
 exact ⟨h.b2,h.b6,h.row.below (qaA (Below.refl _ _) k) h.row.lt.2,⟨u,rs,h1,h2.grow (qaA (Below.refl _ _) k),h4,h5⟩,qaA h.low k⟩
theorem RtI.own {w:World} {B2 B6 B7 gb gs:Nat} {O:Ops} {v:List Nat} {q:Nat} {B:Nat} (hB:w.heap.size<=B):OwnFrom B (fun (pre:List (Elt q)) W=>RtI w B2 B6 B7 gb gs O v q pre.length W):=fun s W W' row h hg hr=>by
 have hr2:∀ r,row=some r->∃ o:Obj,W.heap[r]?=some o/\o.isCells=false:=fun r e=>(hr r e).2
 obtain ⟨cur,hc,_⟩:=h.row.cur
 obtain ⟨u,rs,h1,h2,h4,h5⟩:=h.out
 refine ⟨cell_kept h.b2 hg hr2,(hg.block B6 (qbE h.b6) (fun e=>rowNe hr h.b6 e.symm)).trans h.b6,h.row.grown hg (fun e=>rowNe hr hc e.symm),⟨u,rs,(hg.block B7 (qbE h1) (fun e=>rowNe hr h1 e.symm)).trans h1,h2.other hg (fun b hb=>?_),h4,h5⟩,h.low.grown hg h.low.size (fun k e=>Nat.le_trans hB (hr k e).1)⟩
 obtain ⟨cs,fr,hh,_⟩:=h2.cells hb
 exact rowNe hr hh
def RootsPost (w:World) (O:Ops) (v:List Nat) (q:Nat) (e:Ending) (w':World):Prop :=
 (∃ (VA:Option Addr) (rs:List Nat) (ck:Nat),e=.returned (.tuple #[.slice VA rs.length ck,.int .i64 0])/\IntsUp w' w.heap.size VA (nz rs)/\∀ r∈rs,r<q/\evN O v r=0)/\Below w.heap.size w w'
set_option maxHeartbeats 4000000 in
set_option maxRecDepth 100000 in
theorem roots_c (gb p m:Nat) (md l v:List Nat) (A:Option Addr) (c:Nat) (w:World) (hF:FT p m md l) (hG:GFAt w w.heap.size gb p m l (logL l (p ^ m))) (hv:∀ x∈v,x<p ^ m) (hA:IntsAt w w.heap.size A (nz v)) (h0:0<v.length) (hl:v.length<=1000) (hne:v.getD (v.length-1) 0≠0) :
 Calls Tryz.prog 204 #[.pointer (some ⟨gb,0,none⟩),.slice A v.length c] w (RootsPost w (opsT p m l) v (p ^ m)):=by
 have hgb:gb<w.heap.size:=hG.1
 have hq2:=hF.small.q
 have HG:=Lib.hid hG
 have HA:=Lib.hid hA
 have HCN:Hid (∀ W,Below w.heap.size w W->Calls Tryz.prog 235 #[.pointer (some ⟨gb,0,none⟩),.slice A v.length c] W fun e w'=>e=.returned (.slice (some ⟨W.heap.size,0,none⟩) v.length v.length)/\Row w' W.heap.size W.heap.size v.length (nz v)/\Below W.heap.size W w'):=fun W hW=>canon_keep gb p m l _ v A c W ((hG.keep hW).more hW.size) hv ((hA.keep hW).more hW.size) h0 hl hne
 have HEV:Hid (∀ (W:World) (x gs:Nat),x<p ^ m->Below w.heap.size w W->Row W w.heap.size gs v.length (nz v)->Calls Tryz.prog 162 #[.pointer (some ⟨gb,0,none⟩),.slice (some ⟨gs,0,none⟩) v.length v.length,.int .i64 x] W (Quiet (.int .i64 ((evN (opsT p m l) v x:Nat):Int)) W)):=fun W x gs hx hW hr =>
  eval_c gb p m W.heap.size md l v x _ _ W hF ((hG.keep hW).more hW.size) hv hx (hr.ints hr.lt.2) hl
 have HO:Hid (∀ W,Below w.heap.size w W->W.cell? ⟨gb,3,none⟩=some (.int .i64 ((p ^ m:Nat):Int))):=fun W hW=>by
  obtain ⟨_,_,_,_,_,_,_,_,h3,_,_,_,_⟩:=(hG.keep hW).cells
  exact h3
 clear hG hA hv hne hF
 have hvl:¬ ((v.length:Int)=0):=by omega
 have hvb:((v.length:Int)==0)=false:=beq_false_of_ne (by omega)
 generalize opsT p m l=O at *
 generalize p ^ m=q at *
 refine (callsIn_wide (n:=3)).1 (callsIn_of_wp_marks Tryz.func204 rfl trivial (wpIn_wide.2 ?_))
 simp only [Tryz.ntmps204,List.size_toArray,List.length_cons,List.length_nil,Nat.reduceAdd,Nat.reduceSub,Array.replicate_succ,Array.replicate_zero,List.push_toArray,List.append_toArray,List.nil_append,List.cons_append]
 have HX:=Lib.hid (qcY w [.pointer (some ⟨gb,0,none⟩)] 100)
 go_upto_region 1 with fail
 generalize w.alloc (.cells #[.pointer (some ⟨gb,0,none⟩)] 100)=W0 at *
 have y2:W0.cell? ⟨w.heap.size,0,none⟩=some (.pointer (some ⟨gb,0,none⟩)):=HX.out.cell rfl
 go_wp2_with fail
 (with_reducible refine (HCN.out W0 HX.out.below).mono ?_)
 rintro e w1 ⟨rfl,hrow,hb1⟩
 have HX1:=Lib.hid (HX.out.grow hb1)
 have HR1:=Lib.hid (hrow.base (B':=w.heap.size) HX.out.below.size)
 have hs1:w.heap.size<W0.heap.size:=HX.out.2.2
 have hs2:W0.heap.size<w1.heap.size:=hrow.lt.2
 clear hrow hb1 y2
 generalize W0.heap.size=gs at *
 clear HX HCN
 clear W0
 go_upto_region 2 with fail
 have HK6:Hid ((w1.alloc (.cells #[.slice (some ⟨gs,0,none⟩) v.length v.length] 23)).heap[w1.heap.size]?=some (.cells #[.slice (some ⟨gs,0,none⟩) v.length v.length] 23 (0,0))):=heap_alloc_new _ _
 have hb2:Below w1.heap.size w1 (w1.alloc (.cells #[.slice (some ⟨gs,0,none⟩) v.length v.length] 23)):=(Below.refl _ _).alloc (Nat.le_refl _) _
 have HX2:=Lib.hid (HX1.out.grow hb2)
 have HR2:=Lib.hid (HR1.out.below hb2 HR1.out.lt.2)
 have hs3:w1.heap.size<(w1.alloc (.cells #[.slice (some ⟨gs,0,none⟩) v.length v.length] 23)).heap.size:=by simp
 clear hb2 HX1 HR1
 generalize w1.alloc (.cells #[.slice (some ⟨gs,0,none⟩) v.length v.length] 23)=w2 at *
 generalize w1.heap.size=B6 at *
 clear w1
 have y6:w2.cell? ⟨B6,0,none⟩=some (.slice (some ⟨gs,0,none⟩) v.length v.length):=cell_of_row _ _ 0 _ _ _ HK6.out
 go_upto_region 5 with fail
 clear y6
 have hb3:Below w2.heap.size w2 (w2.alloc (.cells #[.slice none 0 0] 23)):=(Below.refl _ _).alloc (Nat.le_refl _) _
 have HK7:Hid ((w2.alloc (.cells #[.slice none 0 0] 23)).heap[w2.heap.size]?=some (.cells #[.slice none 0 0] 23 (0,0))):=heap_alloc_new _ _
 have HX3:=Lib.hid (HX2.out.grow hb3)
 have HR3:=Lib.hid (HR2.out.below hb3 HR2.out.lt.2)
 have HK63:=Lib.hid ((hb3.block B6 hs3).trans HK6.out)
 have hs4:w2.heap.size<(w2.alloc (.cells #[.slice none 0 0] 23)).heap.size:=by simp
 clear hb3 HX2 HR2 HK6
 generalize w2.alloc (.cells #[.slice none 0 0] 23)=w3 at *
 generalize w2.heap.size=B7 at *
 clear w2
 have y2:w3.cell? ⟨w.heap.size,0,none⟩=some (.pointer (some ⟨gb,0,none⟩)):=HX3.out.cell rfl
 have HEL:=Lib.hid (elements_f (.pointer (some ⟨gb,0,none⟩)) w3 (.inr ⟨gb,rfl⟩))
 go_wp2_with fail
 (with_reducible refine HEL.out.mono ?_)
 rintro e w4 ⟨rfl,hw4⟩
 have hb4:Below w3.heap.size w3 w4:=by rw [hw4];exact (Below.refl _ _).alloc (Nat.le_refl _) _
 have HK8:Hid (w4.cell? ⟨w3.heap.size,0,none⟩=some (.pointer (some ⟨gb,0,none⟩))):=by rw [hw4];exact cell_of_row _ _ 0 _ _ _ (heap_alloc_new _ _)
 have hs5:w3.heap.size<w4.heap.size:=by rw [hw4];simp
 have HX4:=Lib.hid (HX3.out.grow hb4)
 have HI0:Hid (RtI w w.heap.size B6 B7 gb gs O v q 0 w4):=⟨HX4.out.cell rfl,(hb4.block B6 (by omega)).trans HK63.out,HR3.out.below hb4 HR3.out.lt.2,⟨.slice none 0 0,[],(hb4.block B7 hs4).trans HK7.out,Num.nil _ _,fun r hr=>(by cases hr),Nat.le_refl _⟩,HX4.out.below⟩
 have HO4:=Lib.hid (HO.out w4 HX4.out.below)
 clear hw4 hb4 HEL y2 HX3 HR3 HK63 HK7 HX4
 have hw4w:w.heap.size<=w4.heap.size:=by omega
 generalize w3.heap.size=B8 at *
 clear w3
 go_upto_region 6 with fail
 refine (wpIn_wide (n:=3)).1 (wpIn_rangeFunc_ownF (F:=Fence.wide) (n:=3) (P:=Tryz.prog) (α:=Elt q) (w:=w4) (gf:=236) (lb:=#[.pointer (some ⟨B8,0,none⟩)]) rfl (by omega) rfl trivial (enters_of Tryz.func236 (by kernel_rfl) rfl)
  (encs:=eltV q) (Kp:=fun _ _=>True) (S:=fun _=>True) (Sp:=fun _=>True) (N:=q) (w0:=w4) (elems_stops q B8 gb hq2 w4 hs5 (by omega) HK8.out HO4.out) (fun _ _=>trivial) (fun _ _ _ _ _ _ _ _=>trivial) (Below.refl _ _) (fun _=>rfl)
  (fun pre W=>RtI w w.heap.size B6 B7 gb gs O v q pre.length W) (fun _ _ _=>False) (RtI.own hw4w) (fun _ _ _ _ _ h _ _=>h.elim) HI0.out (fun x=>{ tmps:=#[.pointer (some ⟨gb,0,none⟩),.slice A v.length c,.pointer (some ⟨w.heap.size,0,none⟩),undef,.slice none 0 0,.int .i64 0,.pointer (some ⟨B6,0,none⟩),.pointer (some ⟨B7,0,none⟩),.int .i64 (x.1:Int),.pointer (some ⟨gb,0,none⟩),.slice A v.length c,.slice (some ⟨gs,0,none⟩) v.length v.length,.slice (some ⟨gs,0,none⟩) v.length v.length,.int .i64 (v.length:Int),.bool false,.pointer (some ⟨gb,0,none⟩),.func (.func 236) #[] #[.pointer (some ⟨B8,0,none⟩)],.int .i64 (x.1:Int),undef,undef,undef,undef,undef,undef,undef,undef,undef,undef],defers:=[] }) ?assign ?body ?done ?stop)
 case assign =>
  intro l x W K hK
  have hsem:∀ (ρ:Operand->Value) (o:Oper),(∀ c,o.op≠.defer c)->Oper.semAt (some l) ρ o=execOp ρ o:=fun ρ o h=>Oper.semAt_some l ρ o h
  simp only [eltV]
  gi_wp2
  exact hK
 case body =>
  intro l pre x W hi hlen
  have hsem:∀ (ρ:Operand->Value) (o:Oper),(∀ c,o.op≠.defer c)->Oper.semAt (some l) ρ o=execOp ρ o:=fun ρ o h=>Oper.semAt_some l ρ o h
  obtain ⟨x,hx⟩:=x
  have HC:=Lib.hid (HEV.out W x gs hx hi.low hi.row)
  have HI:=Lib.hid hi
  have b2:=hi.b2
  have b6:W.cell? ⟨B6,0,none⟩=some (.slice (some ⟨gs,0,none⟩) v.length v.length):=cell_of_row _ _ 0 _ _ _ hi.b6
  obtain ⟨y,hy⟩:∃ y,evN O v x=y:=⟨_,rfl⟩
  rw [hy] at HC
  have HY:=Lib.hid hy
  clear hi hy HEV HO HO4 HI0 HK8 HG HA
  gi_wp2
  (try refine ⟨trivial,?_⟩)
  refine (CallsIn.inRound l (callsIn_wide.2 HC.out)).mono ?_
  rintro e W1 ⟨rfl,n,rfl⟩
  have HI1:=Lib.hid (HI.out.drewN n)
  have HKO:Hid (KeepsOthers W (W.drewN n)):=qcP W n
  clear HI HC b2 b6
  generalize W.drewN n=W1 at *
  by_cases hy0:y=0
  . subst hy0
    obtain ⟨i0,hii,hz0,hz1,hz2⟩:=qaG infoInt
    obtain ⟨u,rs,h1,h2,h4,h5⟩:=HI1.out.out
    obtain ⟨VA,ck,hu⟩:=h2.slice
    rw [hu] at h1 h2
    clear hu u
    have y7:W1.cell? ⟨B7,0,none⟩=some (.slice VA rs.length ck):=cell_of_row _ _ 0 _ _ _ h1
    have H1:=Lib.hid h1
    have H2:Hid (Num (W1.alloc (.cells #[.int .i64 (x:Int)] 3)) B6 (.slice VA rs.length ck) rs):=World.ownsRow.alloc h2 _
    have HNE:Hid (∀ b,(Value.slice VA rs.length ck).ownBlock=some b->b≠B7/\b≠B6/\B6<=b):=fun b hb=>⟨h2.ne hb h1 (by decide),h2.ne hb HI1.out.b6 (by decide),by obtain ⟨_,_,_,h⟩:=h2.cells hb;exact h⟩
    have H4:=Lib.hid h4
    have hs7:B7<W1.heap.size:=qbE h1
    clear h1 h2 h4
    gi_wp2_with (gi_at_builtin;refine wpListIn_append_own (W1.alloc (.cells #[.int .i64 (x:Int)] 3)) rfl (.tmp 23) (.tmp 25) 23 rfl B6 3 i0 _ 1 8 Tryz.underlying23 hii hz0 hz1 hz2 rfl (by decide) (.slice VA rs.length ck) rs.length _ rfl H2.out ⟨W1.heap.size,0,none⟩ 1 1 [.int .i64 (x:Int)] rfl rfl (World.news_of_block (cs:=#[.int .i64 (x:Int)]) (t:=3) (fr:=(0,0)) (heap_alloc_new _ _)) (by simp [Value.oneCell']) (by unfold maxLen;omega) (by omega) (by simp;omega) ?_;intro v' w2 hown hgr hnn;obtain ⟨g',cap',rfl⟩:=ownsRow_succ hown;have HGR:=Lib.hid hgr;have HOWN:Hid (Num w2 B6 (.slice (some ⟨g',0,none⟩) (rs.length+1) cap') (rs++[x])):=Num.step hown;have HKP:Hid (∀ b,b<W1.heap.size->(Value.slice VA rs.length ck).ownBlock≠some b->w2.heap[b]?=W1.heap[b]?):=fun b hb hne=>(hgr.block b (by simp;omega) (fun e=>hne e.symm)).trans (heap_alloc_old _ _ hb);have H7:Hid (w2.heap[B7]?=some (.cells #[.slice VA rs.length ck] 23 (0,0))):=(HKP.out B7 hs7 (fun e=>(HNE.out _ e).1 rfl)).trans H1.out;have y7':w2.cell? ⟨B7,0,none⟩=some (.slice VA rs.length ck):=cell_of_row _ _ 0 _ _ _ H7.out;have f7:w2.frozen? ⟨B7,0,none⟩=false:=(by simp [World.frozen?,H7.out]);clear hown hgr hnn y7)
    have HBL:Hid (∀ b,b<W1.heap.size->b≠B7->(Value.slice VA rs.length ck).ownBlock≠some b->(w2.setCell ⟨B7,0,none⟩ (.slice (some ⟨g',0,none⟩) (rs.length+1) cap')).heap[b]?=W1.heap[b]?):=fun b hb h7 hne=>(Below.heap_setCell w2 ⟨B7,0,none⟩ _ b h7).trans (HKP.out b hb hne)
    obtain ⟨cg,hcg,_⟩:=HI1.out.row.cur
    have hsz1:w.heap.size<=W1.heap.size:=HI1.out.low.size
    refine ⟨HKO.out.trans ((KeepsOthers.alloc W1 _).trans ((KeepsOthers.of_grownBy HGR.out (fun j o e ho=>?_)).trans (KeepsOthers.setCell _ _ _))),trivial,⟨?_,?_,?_,⟨.slice (some ⟨g',0,none⟩) (rs.length+1) cap',rs++[x],qaT H7.out 0 _,?_,?_,?_⟩,?_⟩⟩
    . obtain ⟨cs,fr,hh,_⟩ := H2.out.cells e
      rw [hh] at ho
      injection ho with ho
      subst ho
      rfl
    . exact (World.cell?_of_block (a:=⟨w.heap.size,0,none⟩) (HBL.out w.heap.size (by omega) (by omega) (fun e=>by have:=(HNE.out _ e).2.2;omega))).trans HI1.out.b2
    . exact (HBL.out B6 (by omega) (by omega) (fun e=>(HNE.out _ e).2.1 rfl)).trans HI1.out.b6
    . exact HI1.out.row.same (HBL.out gs (by omega) (by omega) (fun e=>by have:=(HNE.out _ e).2.2;omega))
    . exact HOWN.out.other (qbQ w2 ⟨B7,0,none⟩ _) (fun b hb e=>HOWN.out.ne hb H7.out (by decide) (by injection e with e;exact e.symm))
    . intro r hr
      rcases List.mem_append.1 hr with hr | hr
      . exact H4.out r hr
      . obtain rfl : r = x := by simpa using hr
        exact ⟨hx,HY.out⟩
    . simp
      omega
    . exact ((HI1.out.low.alloc hsz1 _).grown HGR.out (by simp;omega) (fun k e=>by have:=(HNE.out _ e).2.2;omega)).setCell (p:=⟨B7,0,none⟩) (by show _<=B7;omega) _
  . have hyb : ((y : Int) == 0) = false := beq_false_of_ne (by omega)
    gi_wp2
    exact ⟨HKO.out,trivial,HI1.out.mono (by simp)⟩
 case done =>
  intro D xs W hD _ hi hd
  obtain ⟨u,rs,h1,h2,h4,h5⟩:=hi.out
  have y7:W.cell? ⟨B7,0,none⟩=some u:=cell_of_row _ _ 0 _ _ _ h1
  have HN2:Hid (Num (W.putObj D (.deferred none)) B6 u rs):=h2.other (grownBy_putObj' W D _) (fun b hb e=>by
   injection e with e
   subst e
   obtain ⟨cs,fr,hh,_⟩:=h2.cells hb
   rw [hd] at hh
   cases hh)
  obtain ⟨VA,ck,rfl⟩:=h2.slice
  have HLOW:Hid (Below w.heap.size w (W.putObj D (.deferred none))):=qcC hi.low (by omega) _
  have H4:=Lib.hid h4
  clear hi h1 h2 h4 HEV HO HO4 HI0 HK8 HG HA
  go_wp2_with fail
  refine ⟨by simp,.inl ⟨_,_,rfl,run_takeDeferred hd,?_⟩⟩
  exact ⟨_,results_tmp2 rfl _ _ _,⟨VA,rs,ck,rfl,HN2.out.up.lower (by omega),H4.out⟩,HLOW.out⟩
 case stop =>
  intro D c pre W _ _ h _
  exact h.elim
end Go.Proofs.YtlmglaonldlanaaGreat
