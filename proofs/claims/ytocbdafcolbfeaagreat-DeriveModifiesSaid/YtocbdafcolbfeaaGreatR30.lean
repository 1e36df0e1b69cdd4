/- Parts of the proof. -/
import Derived.Test.YtocbdafcolbfeaaGreatR29
set_option maxRecDepth 100000
set_option maxHeartbeats 8000000
namespace Go.Proofs.YtocbdafcolbfeaaGreat
open Go.RowKit Pln Go.Proofs.Tryz
theorem bxs2(w:Wo)(a b:List Value):BXS w [a,b] ((w.alloc (.cells a.toArray 32)).alloc (.cells b.toArray 32)):=by
 refine⟨fun i cs hi=>?_,(zV.alloc zn _).alloc U2 _,U2⟩;rcases i with _|_|i
 . injection hi with hi;subst hi;exact(heap_alloc_old _ _ U2).trans (heap_alloc_new _ _)
 . injection hi with hi;subst hi;exact alloc_at U2 _
 . simp at hi
def ivR(u:LN)(N d k:Nat):Nat->LN
 |0=>List.replicate N 0
 |t+1=>(ivR u N d k t).set (t*d+k) (u.getD t 0)
theorem ivR_len(u:LN)(N d k:Nat):∀t,(ivR u N d k t).length=N
 |0=>by simp[ivR]
 |t+1=>by simp[ivR,ivR_len u N d k t]
theorem ivR_ok{q:Nat}(b:0<q){u:LN}(c:∀ x∈u,x<q)(N d k:Nat):∀ t,Dv.Ok q N (ivR u N d k t)
 |0=>Dv.zeros_ok b
 |t + 1=>by
   refine⟨ivR_len u N d k (t+1),fun x hx=>?_⟩
   unfold ivR at hx
   rcases List.mem_or_eq_of_mem_set hx with h|rfl
   . exact(ivR_ok b c N d k t).2 x h
   . exact Al.getD_ok c b t
def IntRow(A:LL)(N d:Nat)(r:LN):Prop:=∃u∈A,∃k,k<d/\r=ivR u N d k u.length
def RelI3(wb:Wo)(u:LN)(N d k g c:Nat)(vi:Value)(wr:Wo):Prop:=
 ∃t:Nat,t<=u.length/\vi=Y t/\Row wr wb.heap.size g c (nz (ivR u N d k t))/\zB wb wr
theorem interleave_c(p m:Int)(mod:LI)(Am:OA)(cm na:Nat)(ds:List LI)(G:OA)(cg:Nat)(dd:Int)(w:Wo)(ha:CD.At ⟨p,m,mod,Am,cm,na,ds,G,cg⟩ w):
 zC 66 #[C8 p m Am mod.length cm na G ds.length cg,Y dd] w (ConPost w p m mod (na*dd.toNat) (1<=dd) (IntRow (natR ds) (na*dd.toNat) dd.toNat)):=by
 obtain⟨a1,a2,a3,a4,a5,a6,a7⟩:=qbW ha.z;dsimp only at a1 a4 a5 a6 a7;have HX:zK (BXS w [(C2 p m Am mod.length cm na G ds.length cg),(Cd)] ((w.alloc (C4 p m Am mod.length cm na G ds.length cg)).alloc (Ca))):=bxs2 w _ _;have bw:zK (∀W,zB w W->zR W G ds):=fun W hW=>(ha.gen.keep hW).more hW.size;have bt:zK (∀W,zB w W->zI W Am mod):=fun W hW=>(ha.mod.keep hW).more hW.size;have ar:zK (∀W,zB w W->zC 27 #[C8 p m Am mod.length cm na G ds.length cg] W fun e w'=>e=.returned (Y 0)/\zB W w'):=fun W hW=>by have h:=ha.keep hW;have:=codecheck_c p m mod Am cm (na:Int) ds G cg W h.mod U0 h.gen U0;rw[h.z] at this;exact this
 have bs:=zH a6;have bv:=zH a7;have b7:=zH a5;have b6:=zH a4;have cx:0<p.toNat^m.toNat:=by have:=(Al.fld_of (field_ft a5)).q1;omega
 clear ha a4 a5 a6 a7;generalize hdd:dd.toNat=d;generalize hnn:na*d=nn;have b0:=zH hdd;have B:=zH hnn;clear hdd hnn;go_enter func66,ntmps66;go_upto_region 1 with fail;generalize (w.alloc (C4 p m Am mod.length cm na G ds.length cg)).alloc (Ca)=W0 at *;have ax:zK (W0.rangeAt w.heap.size 0 (C2 p m Am mod.length cm na G ds.length cg)):=HX.o.range (i:=0) rfl;go_wp2_with (refine wpList_load_mid rfl 32 (.tmp 2) rfl w.heap.size 0 rfl (C2 p m Am mod.length cm na G ds.length cg) _ ax.o underlying32 rfl codeSz ?_);(with_reducible refine(ar.o W0 HX.o.below).mono ?_);rintro e v ⟨rfl,hb1⟩;have l:=zH (HX.o.grow hb1);clear hb1 HX ax ar;clear W0;have HK:=zH<|l.o.box 1 _ rfl
 have K:zK (BXS w [(C2 p m Am mod.length cm na G ds.length cg),(Cd)] (v.setRow (w.heap.size+1) (C6))):=l.o.set 1 U2 (Cd);have n:=zH<|K.o.box 1 _ rfl
 by_cases c9:dd<1
 . go_wp2_with (refine wpList_store_row rfl 32 (.tmp 4) (.tmp 23) rfl v (w.heap.size+1) 32 (C6) (C6) rfl rfl HK.o codeSz rfl U3 ?_);refine bodyPost_ret (results_row_one (P:=prog) rfl _ _ (w.heap.size+1) 32 (C6) (0,0) _ _ rfl rfl n.o underlying32 rfl codeSz) rfl ?_;exact⟨K.o.below,.inl ⟨6,dc,rfl⟩⟩
 obtain rfl:dd=(d:Int):=by have:=b0.o;omega
 have x3:v.cell? (zA w.heap.size 3)=some (Y (na:Int)):=l.o.cell (i:=0) rfl rfl;have dj:Int.tdiv 64 (na:Int)=((64 / na:Nat):Int):=rfl;have dh:64 / na<=64:=Nat.div_le_self _ _;have de:¬na=0:=U0;have bm:d<=64 / na ↔ d*na<=64:=Nat.le_div_iff_mul_le U0;have av:=zH bm;clear bm;generalize 64 / na=qd at *;by_cases di:qd<d
 . go_wp2_with (refine wpList_store_row rfl 32 (.tmp 4) (.tmp 30) rfl v (w.heap.size+1) 32 (C6) (C6) rfl rfl HK.o codeSz rfl U3 ?_);refine bodyPost_ret (results_row_one (P:=prog) rfl _ _ (w.heap.size+1) 32 (C6) (0,0) _ _ rfl rfl n.o underlying32 rfl codeSz) rfl ?_;exact⟨K.o.below,.inl ⟨4,dc,rfl⟩⟩
 have ct:nn<=64:=by rw[<- B.o,Nat.mul_comm];exact av.o.1 U0
 have dp:IntKind.i64.wrap ((na:Int)*(d:Int))=(nn:Int):=by rw[<- Int.natCast_mul,B.o];exact IntWalk.i64_in _ U0
 have cw:1<=nn:=by rw[<- B.o];exact Nat.mul_pos U0 U0
 obtain⟨zb,db,bo⟩:=makeN nn U0;have b9:=zH bo;clear bo av n K HK;have S:zK (ds.length*d<=64):=by have h1:=Nat.mul_le_mul a1 (Nat.le_refl d);rw[B.o] at h1;exact Nat.le_trans h1 ct
 have c3:=l.o.size;simp only[List.length_cons,List.length_nil] at c3;have aq:zK (∀W,zB v W->BXS w [(C2 p m Am mod.length cm na G ds.length cg),(Cd)] W):=fun W hW=>l.o.grow hW;have y4:v.cell? (zA w.heap.size 4)=some (zL G ds.length cg):=l.o.cell (i:=0) rfl rfl;have U:zK (RelP1 v (p.toNat^m.toNat) nn (IntRow (natR ds) nn d) d ds.length (zL none 0 0) (Y ((0:Nat):Int)) v):=⟨0,0,U0,by rw[Nat.zero_mul],rfl,Below.refl _ _,Nat.le_refl _,RowsQ.nil _ _ _ _ _⟩;clear l;go_wp2;go_loopw [7,34] (fun v7 v34 wr=>RelP1 v (p.toNat^m.toNat) nn (IntRow (natR ds) nn d) d ds.length v7 v34 wr) (fun _ v34 _=>ds.length-(intOf v34).toNat);case atStart=>exact U.o
 case round =>
  obtain⟨j,k,hj,bh,rfl,aj,bp,ak⟩:=hrel;have g:=zH (aq.o wr aj);have ap:=zH aj;have M:=zH ak;have ag:=zH bh;obtain⟨Av,cv,rfl⟩:=ak.form;clear aj ak bh U y4 x3;by_cases cs:j<ds.length
  . obtain ⟨bg,og,Ai,ci,u,rfl,co,be,bf,bq,al⟩ := row_at (bw.o w zV) bs.o bv.o cs;have j0:(0:Int)<=(j:Int):=U0;have j1:(j:Int)<(ds.length:Int):=U0;have y6:=(g.o.below.cell (p:=(zA bg (og+j))) co).trans be;have b2:zK (∀ W,zB w W->zI W Ai (nz u)):=fun W hW=>(bf.keep hW).more hW.size;have ck:=zH bq;have a0:=zH al.1;(have dn:u.length<=64:=by have:=a0.o;omega);have cl:=zH al.2;have C:zK (RelP2 v (p.toNat ^ m.toNat) nn (IntRow (natR ds) nn d) k d (zL Av k cv) (Y ((0:Nat):Int)) wr):=⟨0,k,U0,rfl,rfl,ap.o,bp,M.o⟩;clear bf bq al g ap M be;go_wp2;go_loopw [7,39] (fun v7 v39 wr=>RelP2 v (p.toNat ^ m.toNat) nn (IntRow (natR ds) nn d) k d v7 v39 wr) (fun _ v39 _=>d-(intOf v39).toNat);case atStart=>exact C.o
    case round =>
     obtain⟨c,k2,da,aa,rfl,E,J,H⟩:=hrel;have ah:=zH (aq.o wr E);have Q:=zH E;have V:=zH H;have A:=zH aa;obtain⟨c6,c7,rfl⟩:=H.form;clear E H aa C y6 bp;by_cases bi:c<d
     . (have i0 : (0 : Int) <= (c : Int) := by omega);have i1:(c:Int)<(d:Int):=U0;have y3:wr.cell? (zA w.heap.size 3)=some (Y (na:Int)):=ah.o.cell (i:=0) rfl rfl;have an:zK (zB wr (wr.alloc (.cells zb 3))):=zV.alloc zn _;have D:zK (RelI3 wr u nn d c wr.heap.size nn (Y ((0:Nat):Int)) (wr.alloc (.cells zb 3))):=⟨0,U0,rfl,b9.o wr wr.heap.size zn,an.o⟩;obtain ⟨wb,rfl⟩:∃ wb,wb=wr:=⟨wr,rfl⟩;go_wp2;go_loopw [49] (fun v49 wr=>RelI3 wb u nn d c wb.heap.size nn v49 wr) (fun v49 _=>u.length-(intOf v49).toNat);case atStart=>exact D.o
       case round =>
        obtain⟨t,ht,rfl,ad,ai⟩:=hrel;have q:=zH ad;have ao:=zH ai;(have bz:=zH<|ah.o.below.trans (ai.mono ah.o.below.size));(have ch:zK ((nz (ivR u nn d c t)).length=nn):=by show _=_;rw[qaA,ivR_len]);clear ad ai D y3 an;by_cases bj:t<u.length
        . obtain⟨bu,ou,rfl,c8,cq⟩:=(b2.o wr bz.o).at_ (k:=t) (by rw[qaA];exact bj);rw[qaC] at cq;(have c4:t+1<=na:=by have:=a0.o;omega);(have bn:t*d+c<nn:=by have h1:=Nat.mul_le_mul_right d c4;rw[Nat.succ_mul,B.o] at h1;omega);have dm:t*d<=64:=U0;(have dq:IntKind.i64.wrap ((t:Int)*(d:Int))=((t*d:Nat):Int):=by rw[<- Int.natCast_mul];exact IntWalk.i64_in _ U0);(have dr:IntKind.i64.wrap (((t*d:Nat):Int)+(c:Int))=((t*d+c:Nat):Int):=by rw[<- Int.natCast_add];exact IntWalk.i64_in _ U0);have t0:(0:Int)<=(t:Int):=U0;have t1:(t:Int)<(u.length:Int):=U0;have cj:zK (ivR u nn d c (t+1)=(ivR u nn d c t).set (t*d+c) (u.getD t 0)):=rfl;generalize u.getD t 0=x at *;generalize t*d+c=f at *;generalize t*d=td at *;(have y9:wr.cell? (zA wb.heap.size f)=some (Y (((ivR u nn d c t).getD f 0:Nat):Int)):=by have:=q.o.cell (j:=f) (by rw[ch.o];exact bn);rw[qaC] at this;exact this);generalize (ivR u nn d c t).getD f 0=y at *;have yf:=q.o.frozen f;have dg:(f:Int)<(nn:Int):=U0;have c5:(0:Int)<=(f:Int):=U0;go_wp2;go_roundw;case rel=>refine⟨t+1,U0,gn,?_,ao.o.setCell (p:=(zA wb.heap.size f)) zn _⟩;rw[cj.o,<- qbC];exact q.o.set f x
          case measure=>simp[intOf];omega
        . (obtain rfl : t = u.length:=by omega);have aw:zK (Dv.Ok (p.toNat^m.toNat) nn (ivR u nn d c u.length)):=ivR_ok cx cl.o _ _ _ _;have b1:zK (IntRow (natR ds) nn d (ivR u nn d c u.length)):=⟨u,ck.o,c,bi,rfl⟩;have Z:(ivR u nn d c u.length).length=nn:=ivR_len _ _ _ _ _;generalize ivR u nn d c u.length=r at *;obtain⟨O,X,w4,I,bd,cy,ae⟩:=V.o.append J ao.o q.o (by have:=A.o;have:=ag.o;have:=S.o;have:j*d<=ds.length*d:=Nat.mul_le_mul_right _ hj;omega) aw.o b1.o;rw[Z] at I;have az:=zH I;(have bx:=zH<|Q.o.trans bd);have b8:=zH ae;(have af:zK (k2+1=k+(c+1)):=by have:=A.o;show _=_;omega);have cz:=Nat.le_trans J cy;clear I bd ae Z;go_wp2_with (at_builtin;refine qaP rfl (.tmp 63) (.tmp 65) 30 rfl rfl rfl az.o ?_);go_roundw;case rel=>exact⟨c+1,k2+1,U0,af.o,gn,bx.o,cz,b8.o⟩
          case measure=>simp[intOf];omega
     . (obtain rfl : c = d:=by omega);(have af:zK (k2=(j+1)*c):=by have:=A.o;have:=ag.o;show _=_;rw[Nat.succ_mul];omega);go_wp2;go_roundw;case rel=>exact⟨j+1,k2,U0,af.o,gn,Q.o,J,V.o⟩
       case measure=>simp[intOf];omega
  . (obtain rfl : j = ds.length := by omega);obtain ⟨L,a9,ba,bb,bc⟩:=M.o;obtain ⟨A2,c2,e2,br⟩:=ba.up;injection e2 with e3 e4 e5;subst e3;subst e5;have b3:=zH bc;have cr:=ag.o;(have au:zK (zC 80 #[C7 p m Am mod.length cm,Y (nn:Int),zL Av k cv] wr (ConPost wr p m mod nn True (·∈L))):=by have:=qcM p m mod Am cm nn L Av cv wr (bt.o wr g.o.below) (by have:=b6.o;omega) br.rowsAt cw b7.o ⟨rfl,bb⟩ (by have:=S.o;omega);rw [a9] at this;exact this);have ay:zK (wr.rangeAt w.heap.size 0 (C5 p m Am mod.length cm)):=g.o.field (i:=0) rfl;have z3:wr.cell? (zA w.heap.size 3)=some (Y (na:Int)):=g.o.cell (i:=0) rfl rfl;clear a9 ba bb bc br e4 cr M;go_wp2_with (refine wpList_load_mid rfl 29 (.tmp 69) rfl w.heap.size 0 rfl (C5 p m Am mod.length cm) _ ay.o underlying29 rfl fieldSize ?_);go_fit au.o;rintro e w5 ⟨hb5,hcase⟩;have N:=zH (g.o.grow hb5);have a8:=zH g.o.size;clear hb5 au ay z3 g;rcases hcase with ⟨z,hz,rfl⟩|⟨rows,O,R,X,k',rfl,r1,r2,r3,r4,_,r6⟩
    . have cn:=zH hz;clear hz;(have HK:=zH<|N.o.box 1 _ rfl);have K:zK (BXS w [(C2 p m Am mod.length cm na G ds.length cg),(Cd)] (w5.setRow (w.heap.size+1) (C6))):=N.o.set 1 U2 (Cd);(have n:=zH<|K.o.box 1 _ rfl);go_wp2_with (refine wpList_store_row rfl 32 (.tmp 4) (.tmp 77) rfl w5 (w.heap.size+1) 32 (C6) (C6) rfl rfl HK.o codeSz rfl U3 ?_);refine bodyPost_ret (results_row_one (P:=prog) rfl _ _ (w.heap.size+1) 32 (C6) (0,0) _ _ rfl rfl n.o underlying32 rfl codeSz) rfl ?_;exact⟨K.o.below,.inl ⟨z,cn.o,rfl⟩⟩
    . (have HI:=zH<|r1);have cf:=zH r2;have cd:=zH r3;have ce:=zH r6;clear r1 r2 r3 r6;generalize ac:canonM (opsT p.toNat m.toNat (lOf p m mod)) rows nn=s at *;have T:=zH ac;clear ac;(have HK:=zH<|N.o.box 1 _ rfl);have K:zK (BXS w [(C2 p m Am mod.length cm na G ds.length cg),(C2 p m O mod.length X nn R s.length k')] (w5.setRow (w.heap.size+1) (Cc p m O mod.length X nn R s.length k'))):=N.o.set 1 U2 (C2 p m O mod.length X nn R s.length k');(have n:=zH<|K.o.box 1 _ rfl);go_wp2_with (refine wpList_store_row rfl 32 (.tmp 4) (.tmp 77) rfl w5 (w.heap.size+1) 32 (C6) (Cc p m O mod.length X nn R s.length k') rfl rfl HK.o codeSz rfl U3 ?_);refine bodyPost_ret (results_row_one (P:=prog) rfl _ _ (w.heap.size+1) 32 (Cc p m O mod.length X nn R s.length k') (0,0) _ _ rfl rfl n.o underlying32 rfl codeSz) rfl ?_;have dl:=a8.o;have ab:∀b,b≠w.heap.size+1->(w5.setRow (w.heap.size+1) (Cc p m O mod.length X nn R s.length k')).heap[b]?=w5.heap[b]?:=fun b hne=>setRow_other _ _ _ _ hne;refine⟨K.o.below,.inr ⟨rows,O,R,X,k',?_,?_,?_,cd.o,r4,U0,fun r hr=>b3.o r (ce.o r hr)⟩⟩
      . rw[T.o];rfl
      . exact(HI.o.of_blocks U2 fun j hj _=>ab j U0).lower U0
      . rw[T.o];exact(cf.o.of_blocks U2 fun j hj _=>ab j U0).lower U0
end Go.Proofs.YtocbdafcolbfeaaGreat
namespace Go.Proofs.YtocbdafcolbfeaaGreat
open Pln
namespace Al
theorem findRow_all(rows:LL)(c:Nat):∀ g k,findRow rows c g k=k+g->∀ i,k<=i->i<k+g->at2 rows i c=0
 |0,k,_,i,h1,h2=>by omega
 | g + 1,k,h,i,h1,h2 => by
   unfold findRow at h
   by_cases h0:at2 rows k c=0
   . rw[if_pos h0] at h
     by_cases e:i=k
     . subst e;exact h0
     . exact findRow_all rows c g (k+1) U0 i U0 U0
   . rw[if_neg h0] at h
     omega
theorem set_mem_self{α:Type}{l:List α}{i:Nat}{x:α}(b:i<l.length):x∈l.set i x:=List.mem_iff_getElem.2 ⟨i,by simpa using b,U2⟩
theorem set_mem_ne{α:Type}{l:List α}{i k:Nat}{x:α}(c:k<l.length)(b:i≠k):l[k]∈l.set i x:=List.mem_iff_getElem.2 ⟨k,by simpa using c,by simp[List.getElem_set_ne b]⟩
section
variable {q:Nat} {O:Ops} {h:Fld q O}
theorem norm_at2(_:Fld q O){n cols:Nat}{l:LL}(m:Grid q n cols l){t c:Nat}(p:t<n)(_:c<cols):∀ i,i<n->∀ j,j<cols->at2 (normRow O l t c) i j=if i=t then (if at2 l t c=1 then at2 l i j else O.mul (O.inv (at2 l t c)) (at2 l i j)) else at2 l i j:=by
 intro i g j d;have k:=m.1;unfold normRow;by_cases e:at2 l t c=1
 . rw[if_pos e];by_cases b:i=t
   . rw[if_pos b,if_pos e]
   . rw[if_neg b]
 . rw[if_neg e,at2_set U0];by_cases b:i=t
   . rw[if_pos b,if_pos b,if_neg e];obtain⟨f,_⟩:=m.row (i:=t) U0;rw[getD_at (by unfold scaleRow;rw[List.length_map,f];exact d)];unfold scaleRow;rw[List.getElem_map,<- getD_at];rw[b];rfl
   . rw[if_neg b,if_neg b]
theorem zero_below(h:Fld q O){n cols:Nat}{rows:LL}(K:Grid q n cols rows):∀ c,c<=cols->∀ i,(elGo O rows c).piv.length<=i->i<n->∀ j,j<c->at2 (elGo O rows c).rows i j=0
 |0,_=>fun i _ _ j hj=>by omega
 | c + 1,hc => by
   have ih:=zero_below h K c U0
   obtain⟨_,g⟩:=qdT h.self K c U0
   have v:=(elGo_piv (O:=O) rows c).2
   rw[K.1] at v
   unfold elGo
   generalize elGo O rows c=s at *
   unfold elStep
   have u:=g.1
   by_cases x:s.piv.length<s.rows.length
   . simp only [if_pos x]
     have J:=qdF s.rows c (s.rows.length-s.piv.length) s.piv.length
     by_cases y:findRow s.rows c (s.rows.length-s.piv.length) s.piv.length=s.rows.length
     . simp only [if_pos y]
       intro i d b j hj
       by_cases e:j=c
       . subst e
         exact findRow_all s.rows j (s.rows.length-s.piv.length) s.piv.length U0 i d U0
       . exact ih i d b j U0
     . simp only [if_neg y]
       have m:=qcF s.rows c (s.rows.length-s.piv.length) s.piv.length U0
       generalize findRow s.rows c (s.rows.length-s.piv.length) s.piv.length=k at *
       have r:=qdC g (i:=s.piv.length) (j:=k) U0 U0
       have l:at2 (swapRows s.rows s.piv.length k) s.piv.length c≠0:=by
        unfold at2 at m ⊢
        rw[qfE U0 U0]
        exact m
       have I:∀ i,s.piv.length<=i->i<n->∀ j,j<c->at2 (swapRows s.rows s.piv.length k) i j=0:=fun i d b j hj=>by
        unfold at2
        rw[qcZ U0 U0]
        split
        . exact ih s.piv.length zn U0 j hj
        . split
          . exact ih k U0 U0 j hj
          . exact ih i d b j hj
       generalize swapRows s.rows s.piv.length k=p at *
       obtain⟨_,C⟩:=qfL h.self r (i:=s.piv.length) U0 U0 l
       have f:=norm_at2 h r (t:=s.piv.length) (c:=c) U0 U0
       have o:=r.at_ (i:=s.piv.length) (c:=c) U0 U0
       have E:at2 (normRow O p s.piv.length c) s.piv.length c=1:=by
        rw[f _ U0 c U0,if_pos rfl]
        by_cases e:at2 p s.piv.length c=1
        . rw[if_pos e]
          exact e
        . rw[if_neg e,h.mulC _ _ (h.invL _ o l) o,h.inv _ o l]
       have A:∀ i,s.piv.length<=i->i<n->∀ j,j<c->at2 (normRow O p s.piv.length c) i j=0:=fun i d b j hj=>by
        have z:=I i d b j hj
        rw[f i b j U0]
        split
        . split
          . exact z
          . rw[z,h.mulC _ _ (h.invL _ o l) (by have:=h.q1;omega),h.mulZ _ (h.invL _ o l)]
        . exact z
       generalize normRow O p s.piv.length c=H at *
       obtain⟨c1,c2,B,_⟩:=clear_at h C (t:=s.piv.length) (by omega:c<cols) U0 E n zn
       rw[u]
       intro i d b j hj
       have D:s.piv.length+1<=i:=by simpa using d
       show at2 (clearGo O c s.piv.length H n) i j=0
       by_cases e:j=c
       . subst e
         exact B i b U0
       . rw[c1 i b j U0 (A s.piv.length zn U0 j U0)]
         exact A i U0 b j U0
   . simp only[if_neg x]
     intro i d b
     omega
section
variable {Q:(Nat->El q O h)->Prop} {n cols:Nat}
theorem LinF.unadd(L:LinF q O h Q){v u:LN}{a:Nat}(d:a<q)(i:∀x∈v,x<q)(g:∀x∈u,x<q)(f:v.length=u.length)(b:Q (wd h (Pln.addRow O v a u)))(c:Q (wd h u)):Q (wd h v):=by
 have H:=El.fd (h:=h);have e:wd h v=fun j=>wd h (Pln.addRow O v a u) j+-El.of h a*wd h u j:=funext fun j=>by rw[wd_addRow d i g f j,H.negm,H.addA,H.addN,H.zadd]
 rw[e];exact L.step _ _ _ b c
theorem LinF.unclear(L:LinF q O h Q){rows:LL}(B:Grid q n cols rows){c t:Nat}(z:c<cols)(A:t<n):∀ i,i<=n->(∀ r∈clearGo O c t rows i,Q (wd h r))->∀ r∈rows,Q (wd h r)
 |0,_,hr=>hr
 | i + 1,hi,hr => by
   obtain⟨_,g⟩:=qdJ h.self B z A i U0
   refine LinF.unclear L B z A i U0 fun r hm=>?_
   unfold clearGo at hr
   generalize clearGo O c t rows i=R at *
   have y:=g.1
   by_cases b:i≠t/\at2 R i c≠0
   . rw [if_pos b] at hr
     obtain⟨k,d,rfl⟩:=List.mem_iff_getElem.1 hm
     by_cases e:i=k
     . subst e
       obtain⟨p,s⟩:=g.row (i:=i) U0
       obtain⟨u,v⟩:=g.row A
       have o:=hr _ (set_mem_self (l:=R) (x:=Pln.addRow O (R.getD i []) (O.neg (at2 R i c)) (R.getD t [])) d)
       have f:=hr _ (set_mem_ne (l:=R) (k:=t) (x:=Pln.addRow O (R.getD i []) (O.neg (at2 R i c)) (R.getD t [])) U0 b.1)
       have m:R.getD t []=R[t]'U0:=by simp[List.getD,show t<R.length by omega]
       have j:R.getD i []=R[i]:=by simp[List.getD,d]
       rw[<- m] at f
       rw[<- j]
       exact L.unadd (h.negL _ (g.at_ U0 z)) s v (by rw[p,u]) o f
     . exact hr _ (set_mem_ne d e)
   . rw[if_neg b] at hr
     exact hr r hm
theorem LinF.unelim(L:LinF q O h Q){rows:LL}(S:Grid q n cols rows):∀ c,c<=cols->(∀ r∈(elGo O rows c).rows,Q (wd h r))->∀ r∈rows,Q (wd h r)
 |0,_,hr=>hr
 | c + 1,hc,hr => by
   have H:=El.fd (h:=h)
   obtain⟨_,g⟩:=qdT h.self S c U0
   refine LinF.unelim L S c U0 ?_
   unfold elGo at hr
   generalize elGo O rows c=s at *
   unfold elStep at hr
   have B:=g.1
   by_cases D:s.piv.length<s.rows.length
   . simp only [if_pos D] at hr
     have P:=qdF s.rows c (s.rows.length-s.piv.length) s.piv.length
     by_cases E:findRow s.rows c (s.rows.length-s.piv.length) s.piv.length=s.rows.length
     . simp only[if_pos E] at hr
       exact hr
     . simp only [if_neg E] at hr
       have u:=qcF s.rows c (s.rows.length-s.piv.length) s.piv.length U0
       generalize findRow s.rows c (s.rows.length-s.piv.length) s.piv.length=k at *
       have p:=qdC g (i:=s.piv.length) (j:=k) U0 U0
       have v:at2 (swapRows s.rows s.piv.length k) s.piv.length c≠0:=by
        unfold at2 at u ⊢
        rw[qfE U0 U0]
        exact u
       suffices l1:∀ r∈swapRows s.rows s.piv.length k,Q (wd h r) by
        intro r z
        obtain⟨a,t,rfl⟩:=List.mem_iff_getElem.1 z
        have C:=p.1
        have f:∀b,b<n->Q (wd h ((swapRows s.rows s.piv.length k).getD b [])):=fun b hb=>l1 _ (mem_getD U0)
        have I:s.rows[a]=s.rows.getD a []:=by simp[List.getD,t]
        rw[I]
        by_cases o:a=k
        . have:=f s.piv.length U0
          rw[qfE U0 U0] at this
          rw[o]
          exact this
        . by_cases y : a = s.piv.length
          . have:=f k U0
            rw[qcZ U0 U0,if_pos rfl] at this
            rw[y]
            exact this
          . have:=f a U0
            rw[qcZ U0 U0,if_neg o,if_neg y] at this
            exact this
       generalize swapRows s.rows s.piv.length k=d at *
       obtain⟨_,K⟩:=qfL h.self p (i:=s.piv.length) U0 U0 v
       rw[B] at hr
       have m:=LinF.unclear L K U0 U0 n zn hr
       have A:=p.at_ (i:=s.piv.length) (c:=c) U0 U0
       have C:=p.1
       intro r z
       unfold normRow at m
       by_cases e:at2 d s.piv.length c=1
       . rw[if_pos e] at m
         exact m r z
       . rw [if_neg e] at m
         obtain⟨a,t,rfl⟩:=List.mem_iff_getElem.1 z
         by_cases o:s.piv.length=a
         . subst o
           have M:=m _ (set_mem_self (l:=d) (x:=scaleRow O (O.inv (at2 d s.piv.length c)) (d.getD s.piv.length [])) t)
           obtain⟨R,N⟩:=p.row (i:=s.piv.length) U0
           have J:d.getD s.piv.length []=d[s.piv.length]:=by simp[List.getD,t]
           have y:wd h d[s.piv.length]=fun j=>(0:El q O h)+El.of h (at2 d s.piv.length c)*wd h (scaleRow O (O.inv (at2 d s.piv.length c)) (d.getD s.piv.length [])) j:=funext fun j=>by
            rw[wd_scale (h.invL _ A v) N,H.addZ,<- H.mulA,<- El.of_mul A (h.invL _ A v),h.inv _ A v,El.of_one,H.mulU,J]
           rw[y]
           exact L.step _ _ _ L.zero M
         . exact m _ (set_mem_ne t o)
   . simp only[if_neg D] at hr
     exact hr
theorem LinF.back(L:LinF q O h Q){rows:LL}(p:Grid q n cols rows)(t:∀ r∈canonM O rows cols,Q (wd h r)):∀ r∈rows,Q (wd h r):=by
 refine L.unelim p cols zn fun r hm=>?_;obtain⟨_,g⟩:=qdT h.self p cols zn;have l:=zero_below h p cols zn;unfold canonM at t;generalize elGo O rows cols=s at *;obtain⟨k,d,rfl⟩:=List.mem_iff_getElem.1 hm;have o:=g.1;by_cases f:k<s.piv.length
 . exact t _ (List.mem_iff_getElem.2 ⟨k,by rw[List.length_take];omega,by rw[List.getElem_take]⟩)
 . have e : wd h s.rows[k] = fun _ => 0 := funext fun j => by
    obtain⟨m,_⟩:=g.row (i:=k) U0;(have b:s.rows[k]=s.rows.getD k []:=by simp[List.getD,d]);rw[b];by_cases c:j<cols
    . have:=l k U0 U0 j c;unfold at2 at this;unfold wd;rw[this];exact El.of_zero
    . unfold wd;(have:(s.rows.getD k []).getD j 0=0:=by unfold List.getD;rw[List.getElem?_eq_none (by unfold List.getD at m;omega)];rfl);rw[this];exact El.of_zero
   rw[e];exact L.zero
end
end
end Al
end Go.Proofs.YtocbdafcolbfeaaGreat
namespace Go.Proofs.YtocbdafcolbfeaaGreat
open Go.RowKit Pln
namespace Al
section
variable {q:Nat} {O:Ops}
theorem snoc_lt{l:LN}{c i:Nat}(b:i<l.length):(l++[c]).getD i 0=l.getD i 0:=by simp[List.getD,List.getElem?_append_left b]
theorem snoc_at{l:LN}{c:Nat}:(l++[c]).getD l.length 0=c:=by simp[List.getD]
theorem ech(h:Fld q O){n cols:Nat}{rows:LL}(R:Grid q n cols rows):∀ c,c<=cols->(∀ i k,i<k->k<(elGo O rows c).piv.length->(elGo O rows c).piv.getD i 0<(elGo O rows c).piv.getD k 0)/\∀ i,i<(elGo O rows c).piv.length->∀ j,j<(elGo O rows c).piv.getD i 0->at2 (elGo O rows c).rows i j=0
 |0,_=>⟨fun i k _ hk=>absurd hk (Nat.not_lt_zero k),fun i hi=>absurd hi (Nat.not_lt_zero i)⟩
 | c + 1,hc => by
   have ih:=ech h R c U0
   obtain⟨_,g⟩:=qdT h.self R c U0
   have x:=(elGo_piv (O:=O) rows c).2
   rw[R.1] at x
   have I:=zero_below h R c U0
   have l:∀i,i<(elGo O rows c).piv.length->(elGo O rows c).piv.getD i 0<c:=fun i hi=>elGo_piv_lt O rows c _ (by rw[getD_at hi];exact List.getElem_mem _)
   unfold elGo
   generalize elGo O rows c=s at *
   unfold elStep
   have v:=g.1
   by_cases A:s.piv.length<s.rows.length
   . simp only [if_pos A]
     have Q:=qdF s.rows c (s.rows.length-s.piv.length) s.piv.length
     by_cases B:findRow s.rows c (s.rows.length-s.piv.length) s.piv.length=s.rows.length
     . simp only[if_pos B]
       exact ih
     . simp only [if_neg B]
       have o:=qcF s.rows c (s.rows.length-s.piv.length) s.piv.length U0
       generalize findRow s.rows c (s.rows.length-s.piv.length) s.piv.length=k at *
       have u:=qdC g (i:=s.piv.length) (j:=k) U0 U0
       have m:at2 (swapRows s.rows s.piv.length k) s.piv.length c≠0:=by
        unfold at2 at o ⊢
        rw[qfE U0 U0]
        exact o
       have N:∀j,j<c->at2 (swapRows s.rows s.piv.length k) s.piv.length j=0:=fun j hj=>by
        unfold at2
        rw[qfE U0 U0]
        exact I k U0 U0 j hj
       have L:∀i,i<s.piv.length->∀j,at2 (swapRows s.rows s.piv.length k) i j=at2 s.rows i j:=fun i hi j=>by
        unfold at2
        rw[qcZ U0 U0,if_neg U0,if_neg U0]
       generalize swapRows s.rows s.piv.length k=r at *
       obtain⟨_,C⟩:=qfL h.self u (i:=s.piv.length) U0 U0 m
       have f:=norm_at2 h u (t:=s.piv.length) (c:=c) U0 U0
       have p:=u.at_ (i:=s.piv.length) (c:=c) U0 U0
       have J:at2 (normRow O r s.piv.length c) s.piv.length c=1:=by
        rw[f _ U0 c U0,if_pos rfl]
        by_cases e:at2 r s.piv.length c=1
        . rw[if_pos e]
          exact e
        . rw[if_neg e,h.mulC _ _ (h.invL _ p m) p,h.inv _ p m]
       have y:∀j,j<c->at2 (normRow O r s.piv.length c) s.piv.length j=0:=fun j hj=>by
        have z:=N j hj
        rw[f _ U0 j U0,if_pos rfl]
        split
        . exact z
        . rw[z,h.mulC _ _ (h.invL _ p m) (by have:=h.q1;omega),h.mulZ _ (h.invL _ p m)]
       have M:∀i,i<s.piv.length->∀j,j<c->at2 (normRow O r s.piv.length c) i j=at2 s.rows i j:=fun i hi j hj=>by
        rw[f _ U0 j U0,if_neg U0,L i hi j]
       generalize normRow O r s.piv.length c=K at *
       obtain⟨c1,c2,P,_⟩:=clear_at h C (t:=s.piv.length) (by omega:c<cols) U0 J n zn
       rw[v]
       refine⟨fun i k hik hk=>?_,fun i hi j hj=>?_⟩
       . have H : k < s.piv.length + 1 := by simpa using hk
         show(s.piv++[c]).getD i 0<(s.piv++[c]).getD k 0
         by_cases b:k<s.piv.length
         . rw[snoc_lt b,snoc_lt U0]
           exact ih.1 i k hik b
         . obtain rfl : k = s.piv.length:=by omega
           rw[snoc_at,snoc_lt hik]
           exact l i hik
       . have D : i < s.piv.length + 1 := by simpa using hi
         have d:=hj
         show at2 (clearGo O c s.piv.length K n) i j=0
         by_cases b:i<s.piv.length
         . rw[snoc_lt b] at d
           have E:=l i b
           rw[c1 i U0 j U0 (y j U0),M i b j U0]
           exact ih.2 i b j d
         . obtain rfl : i = s.piv.length:=by omega
           rw[snoc_at] at d
           rw[c1 _ U0 j U0 (y j d)]
           exact y j d
   . simp only[if_neg A]
     exact ih
theorem clear_same{c t:Nat}{rows:LL}{n:Nat}(b:∀ i,i<n->i≠t->at2 rows i c=0):∀ i,i<=n->clearGo O c t rows i=rows
 |0,_=>rfl
 |i + 1,hi=>by
   unfold clearGo
   rw[clear_same b i U0,if_neg]
   rintro⟨h1,h2⟩
   exact h2 (b i U0 h1)
theorem find_none{rows:LL}{c:Nat}:∀ g k,(∀ i,k<=i->i<k+g->at2 rows i c=0)->findRow rows c g k=k+g
 |0,_,_=>rfl
 |g + 1,k,h=>by
   unfold findRow
   rw[if_pos (h k zn U0),find_none g (k+1) fun i h1 h2=>h i U0 U0]
   omega
theorem canon_idem(h:Fld q O){n cols:Nat}{rows:LL}(T:Grid q n cols rows):canonM O (canonM O rows cols) cols=canonM O rows cols:=by
 obtain⟨C,r⟩:∃C,C=canonM O rows cols:=⟨_,rfl⟩;obtain⟨P,l⟩:∃P,P=(elGo O rows cols).piv:=⟨_,rfl⟩;have N:C.length=P.length:=by rw[r,l,canonM_len]
 obtain⟨d,J⟩:=ech h T cols zn;have K:∀i k,i<P.length->k<P.length->at2 C i (P.getD k 0)=if i=k then 1 else 0:=fun i k hi hk=>by rw[r,l];rw[l] at hi hk;exact qeZ h T hi hk
 have y:∀i,i<P.length->P.getD i 0<cols:=fun i hi=>by rw[l] at hi ⊢;exact elGo_piv_lt O rows cols _ (by rw[getD_at hi];exact List.getElem_mem _)
 have E:∀i,i<P.length->∀j,j<P.getD i 0->at2 C i j=0:=fun i hi j hj=>by
  rw[l] at hi hj;have:=J i hi j hj;unfold at2 at this ⊢;rw[r];unfold canonM;have e:((elGo O rows cols).rows.take (elGo O rows cols).piv.length).getD i []=(elGo O rows cols).rows.getD i []:=by simp[List.getD,hi]
  rw[e];exact this
 rw [<- l] at d;have H:∀ c,c<=cols->∃ t,t<=P.length/\elGo O C c=⟨C,P.take t⟩/\(∀ i,i<t->P.getD i 0<c)/\∀ i,t<=i->i<P.length->c<=P.getD i 0:=by
  intro c;induction c with
  |zero=>exact fun _=>⟨0,Nat.zero_le _,rfl,fun i hi=>absurd hi (Nat.not_lt_zero i),fun i _ _=>Nat.zero_le _⟩
  | succ c ih =>
   intro S;obtain⟨t,B,e,s,I⟩:=ih U0;(have D:(P.take t).length=t:=by rw[List.length_take];omega);unfold elGo;rw[e];unfold elStep;simp only[D,N];by_cases b:t<P.length
   . rw [if_pos b];by_cases p:P.getD t 0=c
     . (have o : at2 C t c = 1 := by have:=K t t b b;rw [if_pos rfl,p] at this;exact this);(have x:findRow C c (P.length-t) t=t:=by obtain ⟨g,M⟩:∃ g,P.length-t=g+1:=⟨P.length-t-1,U0⟩;rw [M];unfold findRow;rw [if_neg U0]);(have A:swapRows C t t=C:=by (have L:C.getD t []=C[t]'U0:=by simp [List.getD,show t<C.length by omega]);unfold swapRows;rw [L];simp);(have z:normRow O C t c=C:=by unfold normRow;rw [if_pos o])
       have v:clearGo O c t C P.length=C:=clear_same (n:=P.length) (fun i hi hne=>by
        have:=K i t hi b
        rw[if_neg hne,p] at this
        exact this) _ zn
       rw[x,if_neg U0,A,z,v];refine⟨t+1,b,?_,fun i hi=>?_,fun i f h4=>?_⟩
       . rw[List.take_succ_eq_append_getElem b];congr 2;rw[<- p,getD_at b]
       . by_cases u : i = t
         . subst u;omega
         . have:=s i U0;omega
       . have:=d t i U0 h4;omega
     . have m : ∀ i,t <= i -> i < P.length -> c < P.getD i 0 := fun i f h4 => by
        have R:=I t zn b;by_cases u:i=t
        . subst u;omega
        . have:=d t i U0 h4;omega
       (have x:findRow C c (P.length-t) t=P.length:=by rw[find_none _ _ fun i f h4=>E i U0 c (m i f U0)];omega);rw[if_pos x];exact⟨t,B,rfl,fun i hi=>by have:=s i hi;omega,fun i f h4=>m i f h4⟩
   . rw[if_neg b];exact⟨t,B,rfl,fun i hi=>by have:=s i hi;omega,fun i f h4=>U0⟩
 obtain⟨t,B,e,s,I⟩:=H cols zn;have Q:t=P.length:=by
  rcases Nat.lt_or_ge t P.length with b|b
  . have p:=I t zn b;have f:=y t b;omega
  . omega
 rw[<- r];show(elGo O C cols).rows.take (elGo O C cols).piv.length=C;rw[e];show C.take (P.take t).length=C;rw[List.take_of_length_le (by rw[List.length_take];omega)]
end
end Al
theorem qfJ{p m:Int}{mod:LI}{N:Nat}{rows:LL}(g:fieldOK p m mod=true)(j:1<=N)(i:N<=64)(h:Grid (p.toNat^m.toNat) rows.length N rows):codeZ p m mod (N:Int) (nzs (canonM (opsT p.toNat m.toNat (lOf p m mod)) rows N))=0/\Grid (p.toNat^m.toNat) (canonM (opsT p.toNat m.toNat (lOf p m mod)) rows N).length N (canonM (opsT p.toNat m.toNat (lOf p m mod)) rows N)/\(canonM (opsT p.toNat m.toNat (lOf p m mod)) rows N).length<=N:=by have b:=Al.fld_of (field_ft g);have d:=canon_grid b.self h;rw[<- canonM_len] at d;have c:=(elGo_piv (O:=opsT p.toNat m.toNat (lOf p m mod)) rows N).1;rw[<- canonM_len] at c;have f:=Al.canon_idem b h;refine⟨?_,d,c⟩;unfold codeZ;rw[if_neg (by rw[g];decide),if_neg (by unfold lengthZ;rw[if_neg U0];decide)];unfold spZ;rw[qeY g d i U0,if_neg dc,if_pos];unfold canZ;rw[natR_nzs,Int.toNat_natCast,f]
end Go.Proofs.YtocbdafcolbfeaaGreat
namespace Go.Proofs.YtocbdafcolbfeaaGreat
open Go.RowKit Pln Go.Proofs.Tryz
def RowsB(w:Wo)(P:Nat->Prop)(A:OA)(zs:List LI):Prop:=
 0<zs.length->∃b o,A=some (zA b o)/\P b/\b<w.heap.size/\∀i,i<zs.length->∃(bi oi ci:Nat),w.cell? (zA b (o+i))=some (zL (some (zA bi oi)) (zs.getD i []).length ci)/\P bi/\bi<w.heap.size/\∀j,j<(zs.getD i []).length->w.cell? (zA bi (oi+j))=some (Y ((zs.getD i []).getD j 0))
section
variable {w w':Wo} {P P':Nat->Prop} {A:OA} {zs:List LI}
theorem RowsB.rowsAt(h:RowsB w P A zs):zR w A zs:=fun hz=>by
 obtain⟨b,o,e,_,c,l⟩:=h hz
 refine⟨b,o,e,c,fun i hi=>?_⟩
 obtain⟨d,m,f,g,_,j,k⟩:=l i hi
 exact⟨_,f,g,fun _=>⟨d,m,rfl,j,k⟩⟩
theorem RowsB.mono(h:RowsB w P A zs)(r:∀k,P k->k<w.heap.size->P' k):RowsB w P' A zs:=fun hz=>by
 obtain⟨b,o,e,p,c,n⟩:=h hz
 refine⟨b,o,e,r b p c,c,fun i hi=>?_⟩
 obtain⟨d,q,g,j,l,f,m⟩:=n i hi
 exact⟨d,q,g,j,r d l f,f,m⟩
theorem RowsB.keep(h:RowsB w P A zs)(u:w.heap.size<=w'.heap.size)(t:∀k,P k->k<w.heap.size->w'.heap[k]?=w.heap[k]?):RowsB w' P A zs:=fun hz=>by
 have c:=fun b o f d=>World.cell?_of_block (a:=(zA b o)) (t b f d)
 obtain⟨b,o,e,l,g,r⟩:=h hz
 refine⟨b,o,e,l,U0,fun i hi=>?_⟩
 obtain⟨m,s,n,f,d,p,q⟩:=r i hi
 exact⟨m,s,n,(c _ _ l g).trans f,d,U0,fun j hj=>(c _ _ d p).trans (q j hj)⟩
theorem RowsUp.rowsB{r:Nat}(h:RowsUp w r A zs):RowsB w (fun k=>r<=k/\k<w.heap.size) A zs:=fun hz=>by
 obtain⟨b,o,e,d,c,p⟩:=h hz
 refine⟨b,o,e,⟨d,c⟩,c,fun i hi=>?_⟩
 obtain⟨g,q,j,l,m,f,n⟩:=p i hi
 exact⟨g,q,j,l,⟨m,f⟩,f,n⟩
theorem RowsAt.rowsB{B:Nat}(h:RowsAt w B A zs)(s:B<=w.heap.size)(r:∀i,i<zs.length->0<(zs.getD i []).length):RowsB w (fun k=>k<B) A zs:=fun hz=>by
 obtain⟨b,o,e,c,n⟩:=h hz
 refine⟨b,o,e,c,U0,fun i hi=>?_⟩
 obtain⟨q,f,g,j⟩:=n i hi
 obtain⟨d,p,rfl,l,m⟩:=j (r i hi)
 exact⟨d,p,f,g,l,U0,m⟩
theorem RowsB.hdrs{b o:Nat}(h:RowsB w P (some (zA b o)) zs):∃f:Nat->Value,∀i,i<zs.length->w.cell? (zA b (o+i))=some (f i)/\∃(bi oi ci:Nat),f i=zL (some (zA bi oi)) (zs.getD i []).length ci/\P bi/\bi<w.heap.size/\∀j,j<(zs.getD i []).length->w.cell? (zA bi (oi+j))=some (Y ((zs.getD i []).getD j 0)):=by
 have c:∀i,∃v:Value,i<zs.length->w.cell? (zA b (o+i))=some v/\∃(bi oi ci:Nat),v=zL (some (zA bi oi)) (zs.getD i []).length ci/\P bi/\bi<w.heap.size/\∀j,j<(zs.getD i []).length->w.cell? (zA bi (oi+j))=some (Y ((zs.getD i []).getD j 0)):=fun i=>by
  by_cases d:i<zs.length
  . obtain⟨m,n,e,_,_,l⟩:=h U0;injection e with e;injection e with e1 e2;subst e1 e2;obtain⟨bi,oi,ci,g,k⟩:=l i d;exact⟨_,fun _=>⟨g,bi,oi,ci,rfl,k⟩⟩
  . exact⟨.bool false,fun h=>absurd h d⟩
 exact⟨fun i=>Classical.choose (c i),fun i d=>Classical.choose_spec (c i) d⟩
end
theorem append_rows{w:Wo}{P:Nat->Prop}{R:Nat}{T U:List LI}(W:RowsB w P (zO R) T){A:OA}{c:Nat}(V:RowsB w P A U)(X:T.length<=1000000)(Z:U.length<=1000000):
 ∃(A':OA)(c':Nat)(w2:Wo),(Builtin.append_ #[30,30] 30 #[zS R T.length T.length,zL A U.length c]).run prog w=.ok (zL A' (T.length+U.length) c') w2/\RowsB w2 (fun k=>P k\/w.heap.size<=k) A' (T++U)/\zB w w2:=by
 obtain⟨O,t,D,E,H⟩:=qaF infoInts;by_cases M:0<U.length
 . obtain ⟨b,o,rfl,_,Q,_⟩ := V M;obtain ⟨f,J⟩:=W.hdrs;obtain ⟨g,K⟩:=V.hdrs;have L:maxLen=9223372036854775807:=rfl
   obtain⟨S,w2,r,l,C⟩:=run_append_arg_grows (P:=prog) w 30 30 23 O _ 1 24 underlying30 t D E H rfl dc (zA R 0) T.length T.length ((List.range T.length).map f) U2 (fun j u hj=>by
    have d:j<T.length:=by simpa using(List.getElem?_eq_some_iff.1 hj).1
    have e:u=f j:=by simpa[d] using hj.symm
    rw[e,Addr.add_mid]
    exact(J j d).1) (zA b o) U.length c ((List.range U.length).map g) U2 (fun j u hj=>by
    have d:j<U.length:=by simpa using(List.getElem?_eq_some_iff.1 hj).1
    have e:u=g j:=by simpa[d] using hj.symm
    rw[e,Addr.add_mid]
    exact(K j d).1) U0 U0 U0
   have h:=zV.grown C zn (fun k e=>by cases e);obtain⟨A',c',rfl,N⟩:=own_slice' l;refine⟨A',c',w2,r,fun hz=>?_,h⟩;obtain⟨G,rfl⟩:=N U0;have I:=l.lt G rfl;refine⟨G,0,rfl,.inr I.1,I.2,fun i t=>?_⟩;rw[List.length_append] at t;have m:=l.cellAt i U0;rw[Nat.zero_add,m];by_cases d:i<T.length
   . obtain⟨_,n,s,v,x,y,q,B⟩:=J i d;(have z:(T++U).getD i []=T.getD i []:=by simp[List.getD,List.getElem?_append_left d]);rw[z];refine⟨n,s,v,?_,.inl y,Nat.lt_of_lt_of_le q h.size,fun j hj=>(h.cell (p:=(zA n (s+j))) q).trans (B j hj)⟩;rw[List.getElem?_append_left (by simpa using d),<- x];simp[d]
   . obtain⟨_,n,s,v,x,y,q,B⟩:=K (i-T.length) U0;(have z:(T++U).getD i []=U.getD (i-T.length) []:=by simp[List.getD,List.getElem?_append_right (Nat.le_of_not_lt d)]);rw[z];refine⟨n,s,v,?_,.inl y,Nat.lt_of_lt_of_le q h.size,fun j hj=>(h.cell (p:=(zA n (s+j))) q).trans (B j hj)⟩;rw[List.getElem?_append_right so,<- x];simp[show i-T.length<U.length by omega]
 . obtain rfl:U=[]:=List.eq_nil_of_length_eq_zero U0;refine⟨some (zA R 0),T.length,w,?_,by rw[List.append_nil];exact W.mono fun k hk _=>.inl hk,Below.refl _ _⟩;cases A<;>simp[Builtin.append_,run_underlying underlying30,sizeOf,typeInfo,t,Builtin.lenOf,Builtin.firstCells,storeCells,loadCells,loadCellsFrom]
structure MB (w:Wo) (n:Int) (L:LL) (v:Value) (W:Wo):Prop where
 box:W.heap[w.heap.size]?=some (.cells #[Y n,v] 54 (0,0))
 rows:RowsOwn W (w.heap.size+1) v L
 below:zB w W
 size:w.heap.size+1<=W.heap.size
section
variable {w W W' w1:Wo} {n:Int} {L:LL} {v:Value}
theorem MB.start(w:Wo)(n:Int):MB w n [] (zL none 0 0) (w.alloc (D1 n)):=⟨heap_alloc_new _ _,RowsOwn.nil _ _,zV.alloc zn _,U2⟩
theorem MB.step(h:MB w n L v W)(m:zB W w1){g c:Nat}{r:LN}(q:Row w1 W.heap.size g c (nz r))(o:L.length<=1000000):
 ∃(A':OA)(c':Nat)(w2:Wo),(Builtin.append_ #[30,30] 30 #[v,zS w1.heap.size 1 1]).run prog (w1.alloc (.cells #[zS g r.length c] 23))=.ok (zL A' (L.length+1) c') w2/\w2.cell? (zA w.heap.size 1)=some v/\w2.frozen? (zA w.heap.size 1)=false/\
  MB w n (L++[r]) (zL A' (L.length+1) c') (w2.setCell (zA w.heap.size 1) (zL A' (L.length+1) c')):=by obtain⟨l,w2,f,d,i,j⟩:=h.rows.append h.size m q o;obtain⟨A',c',rfl,_⟩:=j.up;rw[List.length_append,List.length_singleton] at *;have b:=(d.block w.heap.size (Nat.lt_succ_self _)).trans h.box;refine⟨A',c',w2,f,cell_of_row _ _ 1 _ _ _ b,by simp[World.frozen?,b],heap_set_same b 1 _,j.of_blocks fun k hk _=>Below.heap_setCell w2 (zA w.heap.size 1) _ k (by show k≠w.heap.size;omega),(h.below.trans (d.mono (Nat.le_succ _))).setCell (p:=(zA w.heap.size 1)) zn _,?_⟩;simp;exact Nat.lt_of_lt_of_le h.size i
end
def RelRt(w1:Wo)(O:Ops)(q n:Nat)(rows bs:LL)(v16:Value)(wr:Wo):Prop:=
 ∃(k:Nat)(L:LL)(v:Value),k<=bs.length/\v16=Y k/\L.length=k/\(∀i,i<k->Dv.Ok q n (L.getD i [])/\RedI O q n rows (bs.getD i []) (L.getD i []))/\MB w1 n L v wr
def RestPost(w:Wo)(O:Ops)(q n:Nat)(rows bs:LL)(e:Ending)(w':Wo):Prop:=
 (∃(L:LL)(A':OA)(c':Nat),e=.returned (Co n A' L.length c')/\zR w' A' (nzs L)/\L.length=bs.length/\∀i,i<bs.length->Dv.Ok q n (L.getD i [])/\RedI O q n rows (bs.getD i []) (L.getD i []))/\zB w w'
theorem rests_c(gb p m:Nat)(md l:LN)(n:Nat)(rows:LL)(A:OA)(c:Nat)(piv:LN)(VA:OA)(ck:Nat)(bs:LL)(B:OA)(cb:Nat)(w:Wo)(hF:FT p m md l)(hG:GFAt w w.heap.size gb p m l (logL l (p ^ m)))(hA:zR w A (nzs rows))(au:Grid (p ^ m) rows.length n rows)(ay:1<=n)(az:n<=64)(hV:zI w VA (nz piv))(av:piv.length=rows.length)(aw:∀ y∈piv,y<n)(ax:rows.length<=64)(hB:zR w B (nzs bs))(ar:Grid (p ^ m) bs.length n bs)(a0:bs.length<=64):
 zC 250 #[D5 gb n A rows.length c VA rows.length ck,Co n B bs.length cb] w (RestPost w (opsT p m l) (p^m) n rows bs):=by
 have ae:=zH<|fun W x Ax cx hW hX hx=>
  reduce_c gb p m md l n rows A c piv VA ck x Ax cx W hF ((hG.keep hW).more hW.size) ((hA.keep hW).more hW.size) au ay az ((hV.keep hW).more hW.size) av aw ax hX hx
 have aa:zK (∀W,zB w W->zR W B (nzs bs)):=fun W hW=>(hB.keep hW).more hW.size;have ab:=zH ar
 have d:zK (BXT w [((Ck gb n A rows.length c VA rows.length ck),122),((Cn n B bs.length cb),54),([Y 0,zL none 0 0],54)] _):=
  (((BXT.nil w).push rfl (Ck gb n A rows.length c VA rows.length ck) 122).push U2 (Cn n B bs.length cb) 54).push U2 [Y 0,zL none 0 0] 54
 clear hF hG hA au hV av aw ax hB ar;generalize opsT p m l=O at *;generalize p^m=q at *;go_enter func250,ntmps250;go_upto_region 1 with fail;generalize ((w.alloc (Cr gb n A rows.length c VA rows.length ck)).alloc (Cb n B bs.length cb)).alloc (Cq)=u at *;have y3:u.cell? (zA (w.heap.size+1) 0)=some (Y (n:Int)):=d.o.cell (i:=1) rfl rfl;have s:=zH (MB.start u (n:Int));have ag:zK (w.heap.size+3<=u.heap.size):=d.o.size;go_upto_region 2 with(refine qaH rfl 54 (.tmp 5) (.tmp 12) rfl u _ #[Y (n:Int),zL none 0 0] rfl rfl matSize rfl U3 ?_);generalize u.alloc (D1 n)=W1 at *;have N:=zH (d.o.low s.o.below d.o.size s.o.below.size);have y4:W1.cell? (zA (w.heap.size+1) 1)=some (zL B bs.length cb):=N.o.cell (i:=1) rfl rfl;have C:zK (RelRt u O q n rows bs (Y ((0:Nat):Int)) W1):=⟨0,[],_,U0,rfl,rfl,fun i hi=>absurd hi (Nat.not_lt_zero i),s.o⟩;clear s y3 N;go_wp2;go_loopw [16] (fun v16 wr=>RelRt u O q n rows bs v16 wr) (fun v16 _=>bs.length-(intOf v16).toNat);case atStart=>exact C.o
 case round =>
  obtain⟨k,L,v,hk,rfl,Q,R,z⟩:=hrel;have f:=zH z;have E:=zH Q;have K:=zH R;have h:=zH (d.o.low z.below d.o.size z.below.size);clear z Q R C y4;by_cases X:k<bs.length
  . obtain ⟨br,aq,Ai,ci,rfl,al,H,I⟩ := (aa.o wr h.o.below).at_ (i := k) (by rw [nzs_len];exact X);rw [nzs_getD] at H I;have J:=ab.o.row X;rw [qaA,J.1] at H;have HC:=zH (ae.o wr (bs.getD k []) Ai ci h.o.below I J);have t:zK (wr.rangeAt w.heap.size 0 (Ck gb n A rows.length c VA rows.length ck)):=h.o.range (i:=0) rfl;have i0:(0:Int)<=(k:Int):=U0;have i1:(k:Int)<(bs.length:Int):=U0;obtain ⟨x,hx⟩:∃ x,bs.getD k []=x:=⟨_,rfl⟩;rw [hx] at HC;have ai:=zH hx;clear I J hx;go_wp2_with (refine wpList_load_mid rfl 122 (.tmp 2) rfl w.heap.size 0 rfl (Ck gb n A rows.length c VA rows.length ck) _ t.o underlying122 rfl viewSz ?_);go_fit HC.o;rintro e w2 ⟨⟨g,c',V,n',c'',rest,rfl,hrow,hok,hred⟩,hb2⟩;(have T:L.length<=1000000:=by have:=E.o;omega);obtain ⟨A',c3,w3,r,an,ao,D⟩:=f.o.step hb2 hrow T;rw [hok.1] at r;have M:=zH r;have ac:=zH D;have ad:=zH hok;have af:=zH hred;have y5:w2.cell? (zA u.heap.size 1)=some v:=cell_of_row _ _ 1 _ _ _ ((hb2.block _ f.o.size).trans f.o.box);clear hrow hok hred hb2 r D HC t H T;go_wp2_with (at_builtin;refine qaP rfl (.tmp 27) (.tmp 29) 30 rfl rfl rfl M.o ?_);go_roundw;case rel =>
     have U:=E.o;refine⟨k+1,L++[rest],_,U0,gn,by rw[List.length_append,U];rfl,fun i hi=>?_,ac.o⟩;by_cases ak:i<k
     . rw[getD_snoc_lt U0];exact K.o i ak
     . (obtain rfl:i=k:=by omega);(have e:(L++[rest]).getD i []=rest:=by rw[<- U];exact getD_snoc_eq L rest []);rw[e,ai.o];exact⟨ad.o,af.o⟩
    case measure=>simp[intOf];omega
  . (obtain rfl:k=bs.length:=by omega);obtain⟨b,cv,rfl,Z⟩:=f.o.rows.up;have ah:=zH Z;have S:=f.o.box;(have t:=zH<|qeS S);have HK:zK (wr.heap[w.heap.size+1+1]?=some (Cq)):=h.o.box 2 _ _ rfl;have HY:zK (BXT w _ (wr.setRow (w.heap.size+1+1) (Cz n b L.length cv))):=h.o.set 2 rfl (Cn n b L.length cv);have aj:zK ((wr.setRow (w.heap.size+1+1) (Cz n b L.length cv)).heap[w.heap.size+1+1]?=some (Cb n b L.length cv)):=HY.o.box 2 _ _ rfl;clear Z S;go_wp2_with (first|(refine wpList_load_mid rfl 54 (.tmp 5) rfl u.heap.size 0 rfl (Cn n b L.length cv) _ t.o underlying54 rfl matSize ?_)|(refine wpList_store_row rfl 54 (.tmp 4) (.tmp 33) rfl wr (w.heap.size+1+1) 54 (Cv) (Cz n b L.length cv) rfl rfl HK.o matSize rfl U3 ?_));refine bodyPost_ret (results_cell_row (P:=prog) rfl _ _ (w.heap.size+1+1) 54 (Cz n b L.length cv) (0,0) _ rfl aj.o underlying54 rfl matSize) rfl ?_;have ap:=ag.o;exact⟨⟨L,b,cv,rfl,(ah.o.of_blocks U2 fun j hj _=>setRow_other wr _ j _ U0).rowsAt,E.o,K.o⟩,HY.o.below⟩
def SumRows(O:Ops)(q n:Nat)(ra rb out:LL):Prop:=∃L:LL,Grid q L.length n L/\L.length=rb.length/\(∀i,i<rb.length->RedI O q n ra (rb.getD i []) (L.getD i []))/\out=canonM O (canonM O L n++ra) n
def RelSs(w1:Wo)(O:Ops)(q n:Nat)(ra rb:LL)(v10 v11:Value)(wx:Wo):Prop:=
 ∃(b R:Nat)(L:LL),v10=Y 0/\v11=zP b/\w1.heap.size<=b/\wx.heap[b]?=some (Cl n R (canonM O L n).length (canonM O L n).length)/\RowsB wx (fun k=>k≠b) (zO R) (nzs (canonM O L n))/\zB w1 wx/\Grid q L.length n L/\L.length=rb.length/\∀i,i<rb.length->RedI O q n ra (rb.getD i []) (L.getD i [])
def SpSum(w:Wo)(O:Ops)(q n:Nat)(ra rb:LL)(e:Ending)(w':Wo):Prop:=
 (∃(R:Nat)(out:LL),e=.returned (.tuple #[.agg #[Y (n:Int),zS R out.length out.length],Y 0])/\RowsUp w' w.heap.size (zO R) (nzs out)/\SumRows O q n ra rb out)/\zB w w'
theorem grid_nzs{q n:Nat}{rows:LL}(b:Grid q rows.length n rows)(c:1<=n):∀i,i<(nzs rows).length->0<((nzs rows).getD i []).length:=fun i hi=>by
 rw[nzs_len] at hi
 rw[nzs_getD,qaA,(b.row hi).1]
 omega
theorem grid_app{q n:Nat}{A B:LL}(b:Grid q A.length n A)(c:Grid q B.length n B):Grid q (A++B).length n (A++B):=⟨rfl,fun r hr=>(List.mem_append.1 hr).elim (b.2 r) (c.2 r)⟩
theorem nzs_app(A B:LL):nzs (A++B)=nzs A++nzs B:=by simp[nzs]
theorem ssum_c(p m:Int)(mod:LI)(Am:OA)(cm n:Nat)(ra rb:LL)(A B:OA)(ca cb:Nat)(w:Wo)(hM:zI w Am mod)(hA:zR w A (nzs ra))(hB:zR w B (nzs rb))(cs:codeZ p m mod (n:Int) (nzs ra)=0)(ct:codeZ p m mod (n:Int) (nzs rb)=0):
 zC 225 #[C7 p m Am mod.length cm,Co n A ra.length ca,Co n B rb.length cb] w (SpSum w (opsT p.toNat m.toNat (lOf p m mod)) (p.toNat^m.toNat) n ra rb):=by
 have HX:zK (BXT w [((C5 p m Am mod.length cm),29),((Cn n A ra.length ca),54),((Cn n B rb.length cb),54),([Y 0,zL none 0 0],54)] ((((w.alloc (C3 p m Am mod.length cm)).alloc (Cb n A ra.length ca)).alloc (Cb n B rb.length cb)).alloc (Cq))):=
  ((((BXT.nil w).push rfl (C5 p m Am mod.length cm) 29).push U2 (Cn n A ra.length ca) 54).push U2 (Cn n B rb.length cb) 54).push U2 [Y 0,zL none 0 0] 54
 obtain⟨a1,a2,a3,a4,a5,a6,_,_,a9,bn⟩:=qcI cs;obtain⟨_,_,_,b4,b5,_⟩:=qcI ct;have a0:=zH<|fun W hW=>pair_c p m mod Am cm n ra rb A B ca cb W ((hM.keep hW).more hW.size) ((hA.keep hW).more hW.size) ((hB.keep hW).more hW.size) cs ct
 have bc:=zH<|fun g1 V1 k1 W hW hG hV=>
  rests_c g1 p.toNat m.toNat (mdOf m mod) (lOf p m mod) n ra A ca (pivC p m mod n ra) V1 k1 rb B cb W (field_ft a1) hG ((hA.keep hW).more hW.size) a4 a2 a3 hV a9 bn U0 ((hB.keep hW).more hW.size) b4 U0
 have au:zK (∀(W:Wo)(rows:LL)(D:OA)(cd:Nat),zB w W->zR W D (nzs rows)->Grid (p.toNat^m.toNat) rows.length n rows->rows.length<=256->zC 141 #[C7 p m Am mod.length cm,Co n D rows.length cd] W fun e w'=>(∃(R:Nat)(VA:OA)(ck:Nat),e=.returned (.tuple #[.agg #[Y (n:Int),zS R (canonM (opsT p.toNat m.toNat (lOf p m mod)) rows n).length (canonM (opsT p.toNat m.toNat (lOf p m mod)) rows n).length],zL VA (canonM (opsT p.toNat m.toNat (lOf p m mod)) rows n).length ck,Y 0])/\RowsUp w' W.heap.size (zO R) (nzs (canonM (opsT p.toNat m.toNat (lOf p m mod)) rows n)))/\zB W w'):=fun W rows D cd hW hD hg hl=>by refine(canonical2_c p m mod Am cm n rows D cd W ((hM.keep hW).more hW.size) U0 hD a2 (qeY a1 hg a3 hl)).mono ?_;rintro e w' ⟨⟨R,VA,ck,he,h1,_⟩,hb⟩;exact⟨⟨R,VA,ck,he,h1.lower U0⟩,hb⟩
 have b2:zK (∀rows:LL,Grid (p.toNat^m.toNat) rows.length n rows->Grid (p.toNat^m.toNat) (canonM (opsT p.toNat m.toNat (lOf p m mod)) rows n).length n (canonM (opsT p.toNat m.toNat (lOf p m mod)) rows n)/\(canonM (opsT p.toNat m.toNat (lOf p m mod)) rows n).length<=n):=fun rows hg=>(qfJ a1 a2 a3 hg).2;have b0:zK (∀W,zB w W->RowsB W (fun k=>k<w.heap.size) A (nzs ra)):=fun W hW=>(hA.keep hW).rowsB hW.size (grid_nzs a4 a2);have b3:=zH a4;have ci:zK (∀C:LL,Grid (p.toNat^m.toNat) C.length n C->∀i,i<(nzs C).length->0<((nzs C).getD i []).length):=fun C hg=>grid_nzs hg a2;have cl:ra.length<=64:=U0;have co:rb.length<=64:=U0;clear hM hA hB cs ct a4 b4 a9 bn;generalize (opsT p.toNat m.toNat (lOf p m mod))=O at *;generalize bp:(p.toNat^m.toNat)=q at *;have b7:=zH bp;clear bp;go_enter func225,ntmps225;go_upto_region 1 with fail;generalize (((w.alloc (C3 p m Am mod.length cm)).alloc (Cb n A ra.length ca)).alloc (Cb n B rb.length cb)).alloc (Cq)=W0 at *;have z:zK (W0.rangeAt w.heap.size 0 (C5 p m Am mod.length cm)):=HX.o.range (i:=0) rfl;have E:=zH<|HX.o.range (i:=1) rfl
 have a8:zK (W0.rangeAt (w.heap.size+1+1) 0 (Cn n B rb.length cb)):=HX.o.range (i:=2) rfl;have aq:=zH (a0.o W0 HX.o.below);clear a0;go_wp2_with (first|(refine wpList_load_mid rfl 29 (.tmp 3) rfl w.heap.size 0 rfl (C5 p m Am mod.length cm) _ z.o underlying29 rfl fieldSize ?_)|(refine wpList_load_mid rfl 54 (.tmp 4) rfl (w.heap.size+1) 0 rfl (Cn n A ra.length ca) _ E.o underlying54 rfl matSize ?_)|(refine wpList_load_mid rfl 54 (.tmp 5) rfl (w.heap.size+1+1) 0 rfl (Cn n B rb.length cb) _ a8.o underlying54 rfl matSize ?_));go_fit aq.o;rintro e g ⟨⟨g1,gb,V1,VA,k1,ck,rfl,_,_,hgf,hpv⟩,hb1⟩;have aj:=zH (HX.o.grow hb1)
 have HY:zK (BXT g [((D0 none),122),((D0 none),122)] ((g.alloc (Cj none)).alloc (Cj none))):=
  ((BXT.nil g).push rfl (D0 none) 122).push U2 (D0 none) 122
 rw[b7.o] at hgf;have aw:=zH hgf.at_;have a7:=zH (qcD hpv);clear hb1 HX aq z E a8 hgf hpv;obtain⟨w2,Z⟩:∃w2,w2=(g.alloc (Cj none)).alloc (Cj none):=⟨_,rfl⟩;rw[<- Z] at HY;have ax:zK (((g.alloc (Cj none)).alloc (Cj none)).heap[g.heap.size]?=some (Cj none)):=by show _=_;rw[<- Z];exact HY.o.box 0 _ _ rfl
 have U:zK (BXT g [((Ck g1 n A ra.length ca V1 ra.length k1),122),((D0 none),122)] (w2.setRow g.heap.size (Ch g1 n A ra.length ca V1 ra.length k1))):=HY.o.set 0 rfl (Ck g1 n A ra.length ca V1 ra.length k1);rw[Z] at U;clear Z HY;have y:=zH<|U.o.box 1 _ _ rfl
 have V:zK (BXT g [((Ck g1 n A ra.length ca V1 ra.length k1),122),((Ck gb n B rb.length cb VA rb.length ck),122)] ((((g.alloc (Cj none)).alloc (Cj none)).setRow g.heap.size (Ch g1 n A ra.length ca V1 ra.length k1)).setRow (g.heap.size+1) (Ch gb n B rb.length cb VA rb.length ck))):=U.o.set 1 rfl (Ck gb n B rb.length cb VA rb.length ck);clear U;go_upto_region 2 with(first|(refine wpList_store_row rfl 122 (.tmp 8) (.tmp 20) rfl _ g.heap.size 122 (Cu none) (Ch g1 n A ra.length ca V1 ra.length k1) rfl rfl ax.o viewSize rfl U3 ?_)|(refine wpList_store_row rfl 122 (.tmp 9) (.tmp 21) rfl _ (g.heap.size+1) 122 (Cu none) (Ch gb n B rb.length cb VA rb.length ck) rfl rfl y.o viewSize rfl U3 ?_));generalize (((g.alloc (Cj none)).alloc (Cj none)).setRow g.heap.size (Ch g1 n A ra.length ca V1 ra.length k1)).setRow (g.heap.size+1) (Ch gb n B rb.length cb VA rb.length ck)=x at *;have j:=V.o.below;have l:=zH (aj.o.grow j);have ab:=zH<|(aw.o.keep j).more j.size
 have ac:=zH<|(a7.o.keep j).more j.size
 have bg:zK (x.rangeAt g.heap.size 0 (Ck g1 n A ra.length ca V1 ra.length k1)):=V.o.range (i:=0) rfl;have cq:g.heap.size+2<=x.heap.size:=V.o.size;have bh:=zH aj.o.size;clear ax y aj j aw a7 V;have bb:zK (∀ W,LSkA x W->W.rangeAt w.heap.size 0 (C5 p m Am mod.length cm)):=fun W hW=>(l.o.grow hW).range (i:=0) rfl;have ba:zK (∀ W,LSkA x W->W.rangeAt (w.heap.size+1+1) 0 (Cn n B rb.length cb)):=fun W hW=>(l.o.grow hW).range (i:=2) rfl;have bd:zK (∀ W,LSkA x W->W.rangeAt g.heap.size 0 (Ck g1 n A ra.length ca V1 ra.length k1)):=fun W hW=>range_keep_v bg.o (Below.block hW _ U0);have be:zK (LSkA x x.drew):=zV.drew;clear bg;go_upto_region 4 with fail;go_cut [10,11,12] (fun v10 v11 v12 wx=>RelSs x O q n ra rb v10 v11 wx);case first =>
  refine wp_region_mixx 12 10 9 (LSkA x) [(0,0),(0,1),(0,2),(2,3),(2,4),(1,5),(1,6),(1,7),(1,8)] [(3,10),(1,11)] default _ (Cq) U1 U1 (fun _ _ d _ _ h=>by cases d<;>exact h) rfl rfl ?_ (fun W hW=>Below.alloc hW (Below.size hW) _) be.o ?_
  . intro a w;unfold ptrTo;go_simp
  simp only[List.map_cons,List.map_nil,List.getD_cons_zero,List.getD_cons_succ];refine x_load_mid rfl 29 (.tmp 3) rfl w.heap.size 0 rfl (C5 p m Am mod.length cm) _ bb.o underlying29 rfl fieldSize ?_;go_simp;refine x_load_mid rfl 122 (.tmp 8) rfl g.heap.size 0 rfl (Ck g1 n A ra.length ca V1 ra.length k1) _ bd.o underlying122 rfl viewSize ?_;go_simp;refine x_load_mid rfl 54 (.tmp 5) rfl (w.heap.size+1+1) 0 rfl (Cn n B rb.length cb) _ ba.o underlying54 rfl matSize ?_;go_simp;apply x_call rfl
  . intro W;go_simp;exact⟨rfl,rfl⟩
  intro W1 cj t;have y:=zH (bc.o g1 V1 k1 W1 (l.o.below.trans (Below.mono t l.o.below.size)) ((ab.o.keep t).more (Below.size t)) ((ac.o.keep t).more (Below.size t)));with_reducible refine y.o.mono ?_
  rintro e w4 ⟨⟨L,D,cd,rfl,hD,hLl,hLp⟩,hb4⟩;have bf:zK (LSkA x w4):=Below.trans t (hb4.mono (Below.size t))
  have Q:zK (Grid q L.length n L):=⟨rfl,fun r hr=>by
   obtain⟨i,hi,rfl⟩:=List.mem_iff_getElem.1 hr
   have:=(hLp i U0).1
   rwa [show L.getD i []=L[i] by simp[List.getD,hi]] at this⟩
  have S:=zH hLl;have ah:=zH<|fun i hi=>(hLp i hi).2
  have av:=zH hD;clear hLl hLp hD y;refine⟨_,rfl,bf.o,hb4,?_⟩;go_simp;apply x_call rfl
  . intro W;go_simp;exact⟨rfl,rfl⟩
  intro W3 br ak;have ay:=zH (au.o W3 L D cd (l.o.below.trans (Below.mono ak l.o.below.size)) ((av.o.keep br).more (Below.size br)) Q.o (by have:=S.o;omega));with_reducible refine ay.o.mono ?_
  rintro e w5 ⟨⟨R,VA,ck,rfl,hr4⟩,hb5⟩;refine⟨_,rfl,Below.trans ak (hb5.mono (Below.size ak)),hb5,?_⟩;go_simp
  iterate 4
   apply x_free rfl
   . intro W
     go_simp
     rfl
   go_simp
  refine x_nil ?_;intro W7 b al bq ap hF u;have bo:¬(W3.heap.size<=b/\b<w5.heap.size):=fun h=>hF (.inr h);have cn:=block_lt u
  have H:zK (RowsB (W7.setRow b (Cm n R (canonM O L n).length (canonM O L n).length)) (fun k=>k≠b) (zO R) (nzs (canonM O L n))):=
   ((hr4.rowsB.keep al.size (fun k hk hk2=>al.block k hk2)).mono (P':=fun k=>k≠b) (fun k hk _ e=>bo (e ▸ hk))).keep U2 (fun k hk _=>setRow_other _ _ _ _ hk)
  have N:zK (zB x (W7.setRow b (Cm n R (canonM O L n).length (canonM O L n).length))):=qaR bq ap _;have s:zK ((W7.setRow b (Cm n R (canonM O L n).length (canonM O L n).length)).heap[b]?=some (Cl n R (canonM O L n).length (canonM O L n).length)):=setRow_same _ _ _ _ _ u;unfold ptrTo;refine qcA rfl 54 (.tmp 11) (.tmp 33) rfl b 54 (Cv) (Cm n R (canonM O L n).length (canonM O L n).length) rfl rfl u matSize rfl U3 ?_;go_simp;apply qaM rfl
  . intro W;go_simp;rfl
  go_simp;refine qbH ?_;show wpList _ _ _ _ _ _;clear hr4 hb5 al bq hF u bo ay av bf;have bv:=ap;go_wp2;go_meet;exact⟨b,R,L,rfl,rfl,bv,s.o,H.o,N.o,Q.o,S.o,ah.o⟩
 case rest=>
  obtain⟨b,R,L,rfl,rfl,ap,u,bz,hb,ao,bu,bw⟩:=hcut;have s:=zH u;have H:=zH bz;have HB:=zH hb;have Q:=zH ao;have S:=zH bu;have ah:=zH bw;have T:=zH (l.o.grow hb);obtain⟨bs,bt⟩:=b2.o L ao;have ar:=zH bs;have ag:=zH bt;clear u bz hb ao bu bw bs bt bc bb ba bd be ab ac l;have ch:w.heap.size+4<=g.heap.size:=bh.o;obtain⟨C,hC⟩:∃C,C=canonM O L n:=⟨_,rfl⟩;rw[<- hC] at s H ar ag;have b1:=zH hC;clear hC;have cg:=block_lt s.o;obtain⟨M,c',w6,K,bx,an⟩:=append_rows H.o ((b0.o wc T.o.below).mono (P':=fun k=>k≠b) (fun k hk _=>U0)) (c:=ca) (by rw[nzs_len];have:=ag.o;omega) (by rw[nzs_len];omega);rw[nzs_len,nzs_len] at K;have ae:=zH K;have v:=(an.block b cg).trans s.o;have bi:=zH (T.o.grow an);have y1:wc.cell? (zA b 1)=some (zS R C.length C.length):=cell_of_row _ _ 1 _ _ _ s.o;have y4:wc.cell? (zA (w.heap.size+1) 1)=some (zL A ra.length ca):=T.o.cell (i:=1) rfl rfl;have y6:w6.cell? (zA b 1)=some (zS R C.length C.length):=cell_of_row _ _ 1 _ _ _ v;have f6:w6.frozen? (zA b 1)=false:=by simp[World.frozen?,v]
  have aa:zK ((w6.setCell (zA b 1) (zL M (C.length+ra.length) c')).heap[b]?=some (Cb n M (C.length+ra.length) c')):=heap_set_same v 1 _;have ad:zK (RowsAt (w6.setCell (zA b 1) (zL M (C.length+ra.length) c')) (w6.setCell (zA b 1) (zL M (C.length+ra.length) c')).heap.size M (nzs (C++ra))):=by show RowsAt _ _ _ _;rw[nzs_app];exact(bx.keep U2 (fun k hk _=>Below.heap_setCell w6 (zA b 1) _ k (by rcases hk with h|h;exact h;show k≠b;omega))).rowsAt
  have N:zK (Below g.heap.size w6 (w6.setCell (zA b 1) (zL M (C.length+ra.length) c'))):=zV.setCell (p:=(zA b 1)) (by show g.heap.size<=b;omega) _;have I:=zH<|bi.o.low N.o ch U2
  clear K bx an v T bi N s H HB;go_upto_region 8 with(at_builtin;refine qaP rfl (.tmp 41) (.tmp 43) 30 rfl rfl rfl ae.o ?_);clear y1 y4 y6 f6 ae;generalize w6.setCell (zA b 1) (zL M (C.length+ra.length) c')=w7 at *;have z:zK (w7.rangeAt w.heap.size 0 (C5 p m Am mod.length cm)):=I.o.range (i:=0) rfl;have E:=zH<|qeS aa.o
  have af:=zH (au.o w7 (C++ra) M c' I.o.below ad.o (grid_app ar.o b3.o) (by rw[List.length_append];have:=ag.o;omega));rw[List.length_append] at af;go_wp2_with (first|(refine wpList_load_mid rfl 29 (.tmp 3) rfl w.heap.size 0 rfl (C5 p m Am mod.length cm) _ z.o underlying29 rfl fieldSize ?_)|(refine wpList_load_mid rfl 54 (.tmp 11) rfl b 0 rfl (Cn n M (C.length+ra.length) c') _ E.o underlying54 rfl matSize ?_));go_fit af.o;rintro e w8 ⟨⟨R2,V2',k2,rfl,hr8⟩,hb8⟩;have bj:=zH (I.o.grow hb8);have ai:=zH hr8;obtain⟨f,J⟩:∃f,f=canonM O (C++ra) n:=⟨_,rfl⟩;rw[<- J] at ai ⊢;have az:=zH J;have ce:=zH I.o.size;clear hr8 hb8 J af z E I ad aa;have b6:zK ((w8.alloc (Cl n R2 f.length f.length)).heap[w8.heap.size]?=some (Cl n R2 f.length f.length)):=heap_alloc_new _ _;have X:zB w8 (w8.alloc (Cl n R2 f.length f.length)):=zV.alloc zn _;have bm:=zH (bj.o.grow X);have b8:=zH<|ai.o.of_blocks X.size fun k _ hk=>X.block k hk
  go_upto_region 9 with(refine qaH rfl 54 (.tmp 13) (.tmp 50) rfl w8 _ (Cm n R2 f.length f.length) rfl rfl matSize rfl U3 ?_);clear X bj ai;generalize w8.alloc (Cl n R2 f.length f.length)=w9 at *;have b9:=zH<|qeS b6.o
  have HK:zK (w9.heap[w.heap.size+1+1+1]?=some (Cq)):=bm.o.box 3 _ _ rfl;have HY:zK (BXT w _ (w9.setRow (w.heap.size+1+1+1) (Cm n R2 f.length f.length))):=bm.o.set 3 rfl (D8 n R2 f.length f.length);have cf:zK ((w9.setRow (w.heap.size+1+1+1) (Cm n R2 f.length f.length)).heap[w.heap.size+1+1+1]?=some (Cl n R2 f.length f.length)):=HY.o.box 3 _ _ rfl;go_wp2_with (first|(refine wpList_load_mid rfl 54 (.tmp 13) rfl w8.heap.size 0 rfl (D8 n R2 f.length f.length) _ b9.o underlying54 rfl matSize ?_)|(refine wpList_store_row rfl 54 (.tmp 6) (.tmp 53) rfl w9 (w.heap.size+1+1+1) 54 (Cv) (Cm n R2 f.length f.length) rfl rfl HK.o matSize rfl U3 ?_));refine bodyPost_ret (results_row_one (P:=prog) rfl _ _ (w.heap.size+1+1+1) 54 (Cm n R2 f.length f.length) (0,0) _ _ rfl rfl cf.o underlying54 rfl matSize) rfl ?_;have cr:w.heap.size+4<=w7.heap.size:=ce.o;exact⟨⟨R2,f,rfl,(b8.o.of_blocks U2 fun k hk _=>setRow_other w9 _ k _ U0).lower U0,L,Q.o,S.o,ah.o,by rw[az.o,b1.o]⟩,HY.o.below⟩
end Go.Proofs.YtocbdafcolbfeaaGreat
namespace Go.Proofs.YtocbdafcolbfeaaGreat
open Pln
namespace Al
section
variable {q:Nat} {O:Ops} {h:Fld q O}
theorem ker_dotF{f:Nat->El q O h}{n:LL}{piv:LN}{r cols c:Nat}(v:Grid q r cols n)(u:∀ i k,i<r->k<r->at2 n i (piv.getD k 0)=if i=k then 1 else 0)(s:c<cols)(o:∀ k,k<r->piv.getD k 0≠c)(p:∀ k,k<r->piv.getD k 0<cols):
 ∀t,t<=r->sm cols (fun j=>f j*wd h (kerK O n piv cols c t) j)=f c+sm t (fun k=>f (piv.getD k 0)*-wd h (n.getD k []) c)
 | 0,_ => by
   have H:=El.fd (h:=h)
   rw[H.sm_one s]
   . have : wd h (kerK O n piv cols c 0) c = 1 := by
      unfold kerK wd
      have:((List.replicate cols 0).set c 1).getD c 0=1:=by simp[List.getD,s]
      rw[this,El.of_one]
     rw[this,H.umul]
     exact(H.zadd _).symm
   . intro j _ g
     rw[kerK_at g 0 (fun k hk=>U0),H.mulZ]
 | t + 1,ht => by
   have H:=El.fd (h:=h)
   have m:=ker_dotF (f:=f) v u s o p t U0
   have hd:∀k,k<t->piv.getD k 0≠piv.getD t 0:=fun k hk e=>by
    have b:=u k k U0 U0
    have d:=u k t U0 U0
    rw[if_pos rfl] at b
    rw[if_neg U0,<- e,b] at d
    omega
   have l:=v.at_ (i:=t) (c:=c) U0 s
   show sm cols (fun j=>f j*wd h ((kerK O n piv cols c t).set (piv.getD t 0) (O.neg ((n.getD t []).getD c 0))) j)=f c+(sm t (fun k=>f (piv.getD k 0)*-wd h (n.getD k []) c)+f (piv.getD t 0)*-wd h (n.getD t []) c)
   rw[dot_set (kerK_len _ _ _ _ _ _) (p t U0) (kerK_at (o t U0) t hd),m,H.addA]
   congr 2
   rw[El.of_neg (by exact l)]
   rfl
theorem orth_lin(n:Nat)(f:Nat->El q O h):LinF q O h fun g=>sm n (fun j=>f j*g j)=0 where
 zero:=(El.fd (h:=h)).sm_zero fun j _=>(El.fd (h:=h)).mulZ _
 step g k a hg hk:=by
  have H:=El.fd (h:=h)
  have e:sm n (fun j=>f j*(g j+a*k j))=sm n (fun j=>f j*g j+a*(f j*k j)):=H.sm_congr fun j _=>by
   rw[H.dist,<- H.mulA,<- H.mulA,H.mulC a]
  show sm n (fun j=>f j*(g j+a*k j))=0
  rw[e,H.sm_lin,hg,hk,H.mulZ,H.addZ]
theorem dual_in{n cols:Nat}{rows:LL}(x:Grid q n cols rows){f:Nat->El q O h}(y:∀ u∈kerM O rows cols,sm cols (fun j=>f j*wd h u j)=0):InC h cols (canonM O rows cols) f:=by
 have H:=El.fd (h:=h);have E:=h.self;have l:=canon_grid E x;have r:=kerRows_grid (piv:=(elGo O rows cols).piv) E h.q1 l rfl;have v:=(orth_lin cols f).back r y;have p:∀k,k<(elGo O rows cols).piv.length->(elGo O rows cols).piv.getD k 0∈(elGo O rows cols).piv:=fun k b=>by rw[getD_at b];exact List.getElem_mem b
 refine⟨fun k=>f ((elGo O rows cols).piv.getD k 0),fun j hj=>?_⟩;rw[canonM_len];by_cases d:j∈(elGo O rows cols).piv
 . obtain⟨m,g,rfl⟩:=List.mem_iff_getElem.1 d;rw[H.sm_one g]
   . have c:=qeZ h x g g;rw[if_pos rfl,getD_at g] at c;rw[<- qcJ,c,El.of_one,H.umul];show f _=f _;rw[getD_at g]
   . intro k b s;have c:=qeZ h x b g;rw[if_neg s,getD_at g] at c;rw[<- qcJ,c,El.of_zero,H.mulZ]
 . (have o:kerK O (canonM O rows cols) (elGo O rows cols).piv cols j (elGo O rows cols).piv.length∈kerRows O (canonM O rows cols) (elGo O rows cols).piv cols:=by unfold kerRows;refine List.mem_map.2 ⟨j,?_,rfl⟩;unfold freeC;rw[List.mem_filter,List.mem_range];exact⟨hj,by simpa using d⟩);have c:=v _ o;rw[ker_dotF l (fun i k hi b=>qeZ h x hi b) hj (fun k b e=>d (by rw[<- e];exact p k b)) (fun k b=>elGo_piv_lt O rows cols _ (p k b)) _ zn] at c;(have t:sm (elGo O rows cols).piv.length (fun k=>f ((elGo O rows cols).piv.getD k 0)*-wd h ((canonM O rows cols).getD k []) j)=-sm (elGo O rows cols).piv.length (fun k=>f ((elGo O rows cols).piv.getD k 0)*wd h ((canonM O rows cols).getD k []) j):=by refine H.negu ?_;rw[<- H.sm_add];refine H.sm_zero fun k _=>?_;rw[H.mneg,H.addN]);rw[t] at c;exact H.subz c
end
end Al
end Go.Proofs.YtocbdafcolbfeaaGreat
namespace Go.Proofs.YtocbdafcolbfeaaGreat
open Go.RowKit Pln Go.Proofs.Tryz
def trR(N:Nat)(rows:LL):LL:=(List.range N).map fun j=>rows.map fun r=>r.getD j 0
theorem trR_len(N:Nat)(rows:LL):(trR N rows).length=N:=by simp[trR]
theorem trR_getD(N:Nat)(rows:LL)(k:Nat)(b:k<N):(trR N rows).getD k []=rows.map fun r=>r.getD k 0:=by simp[trR,List.getD,b]
theorem PGrid.late{w wr:Wo}{B R:Nat}{rows:LL}{x:List (Nat × Nat)}{k g c:Nat}(h:PGrid w B R rows x k)(z:k<rows.length)(D:g=w.heap.size)(y:Below w.heap.size (w.setCell (zA R k) (zS g (rows.getD k []).length c)) wr)(C:B<=w.heap.size)(A:Row wr w.heap.size g c (nz (rows.getD k []))):
 PGrid wr B R rows (x++[(g,c)]) (k+1):=by
 have u:=World.ownsRow.lt h.out R rfl;have r:=(World.ownsRow.stored h.out k (zS g (rows.getD k []).length c)).1;have v:∀i,i<k->bk x i≠R:=fun i l e=>by obtain⟨c1,s⟩:=qdE h.out;obtain⟨c2,o⟩:=qdE (e:=3) (h.row i l);rw[e,s] at o;injection o with o;injection o with _ ht;exact absurd ht dc
 have n:=getD_snoc_eq x (g,c) (0,0);rw[h.len] at n;refine⟨by simp[h.len],z,?_,fun i l=>?_,fun i j l hj hij=>?_⟩
 . have t := own_below r (y.block R u.2)
   have e:((List.range k).map (hdr rows x)++List.replicate (rows.length-k) (Value.slice none 0 0)).set k (zS g (rows.getD k []).length c)
    = (List.range (k+1)).map (hdr rows (x++[(g,c)]))++List.replicate (rows.length-(k+1)) (zL none 0 0):=by
    rw[List.set_append_right _ _ U2,List.length_map,List.length_range,Nat.sub_self,show rows.length-k=(rows.length-(k+1))+1 by omega,List.replicate_succ,List.set_cons_zero,List.range_succ,List.map_append,List.append_assoc]
    congr 1
    . apply List.map_congr_left
      intro i l
      have b:=List.mem_range.1 l
      unfold hdr bk cp
      rw[getD_snoc_lt (by rw[h.len];exact b)]
    . simp only[List.map_cons,List.map_nil,List.singleton_append,hdr,bk,cp]
      rw[n]
   rw[<- e];exact t
 . by_cases d : i = k
   . subst d;unfold bk cp;rw[n];exact A.base (B':=B) U0
   . (have b:i<k:=by omega);have f:=h.row i b;have m:=v i b;unfold bk at m;unfold bk cp at f ⊢;rw[getD_snoc_lt (by rw[h.len];exact b)];exact(f.far (p:=(zA R k)) m _).below y f.lt.2
 . unfold bk;by_cases d:i=k
   . subst d;rw[n,getD_snoc_lt (i:=j) (by rw[h.len];omega)];have:=(h.row j U0).lt.2;unfold bk at this;simp only;omega
   . rw[getD_snoc_lt (i:=i) (by rw[h.len];omega)];by_cases q:j=k
     . subst q;rw[n];have:=(h.row i U0).lt.2;unfold bk at this;simp only;omega
     . rw[getD_snoc_lt (i:=j) (by rw[h.len];omega)];exact h.nd i j U0 U0 hij
def RelG4(w1:Wo)(n N:Nat)(T:LL)(v8:Value)(W:Wo):Prop:=∃b R:Nat,v8=zP b/\W.heap[b]?=some (.cells (D8 n R N N).toArray 54 (0,0))/\
 PGrid W w1.heap.size R T [] 0/\w1.heap.size<=b/\w1.heap.size<=R/\b<W.heap.size/\b≠R/\zB w1 W
def RelG6(w1 wc:Wo)(b R N:Nat)(T:LL)(v33:Value)(wr:Wo):Prop:=∃(k:Nat)(bs:List (Nat × Nat)),k<=N/\v33=Y k/\PGrid wr w1.heap.size R T bs k/\wr.heap[b]?=wc.heap[b]?/\b<wr.heap.size/\zB w1 wr
def TDoG(wc:Wo)(R k n:Nat)(out:LN)(W:Wo):Prop:=Below wc.heap.size (wc.setCell (zA R k) (zS wc.heap.size n n)) W/\Row W wc.heap.size wc.heap.size n (nz out)
def RelG7(wc:Wo)(R k n:Nat)(out:LN)(v47:Value)(wr:Wo):Prop:=∃t:Nat,t<=n/\v47=Y t/\TDoG wc R k n (scK (fun r=>r) out t) wr
section
variable {wc:Wo} {R k n:Nat} {out:LN} {W:Wo}
theorem TDoG.cell(h:TDoG wc R k n out W){x y:Nat}(b:x<wc.heap.size)(c:x≠R):W.cell? (zA x y)=wc.cell? (zA x y):=
 (h.1.cell (p:=(zA x y)) b).trans (World.cell?_setCell_other _ _ _ _ (by intro e;simp only[Addr.mk.injEq] at e;omega))
theorem TDoG.block(h:TDoG wc R k n out W){x:Nat}(c:x<wc.heap.size)(b:x≠R):W.heap[x]?=wc.heap[x]?:=
 (h.1.block x c).trans (Below.heap_setCell wc (zA R k) _ x b)
theorem TDoG.low(h:TDoG wc R k n out W){B:Nat}(b:B<=R)(c:B<=wc.heap.size):Below B wc W:=
 ((Below.refl B wc).setCell (p:=(zA R k)) b _).trans (h.1.mono c)
theorem RelG7.at5{b:Value}(h:RelG7 wc R k n out b W){x y:Nat}(c:x≠R)(d:x<wc.heap.size):W.cell? (zA x y)=wc.cell? (zA x y):=by obtain⟨t,_,_,hd⟩:=h;exact hd.cell d c
end
theorem transpose_g(p m:Int)(mod:LI)(Am:OA)(cm:Nat)(N:Nat)(rows:LL)(A:OA)(c:Nat)(w:Wo)(hM:zI w Am mod)(hl:mod.length<=9223372036854775807)(hA:zR w A (nzs rows))(b3:rows.length<=256)(hN:N<=256)(bz:errC p m mod N (nzs rows)=0)(b0:∀ r∈rows,r.length=N):
 zC 179 #[C7 p m Am mod.length cm,Co N A rows.length c] w (MatPost w rows.length (trR N rows)):=by
 obtain⟨a2,hz⟩:fieldOK p m mod=true/\checkZ (p.toNat^m.toNat) N (nzs rows)=0:=by
  unfold errC at bz;split at bz
  . exact⟨am,bz⟩
  . simp at bz
 obtain⟨i0,y,a7,a8,a9⟩:=qaF infoInt;obtain⟨zs,L,ao⟩:=makeR N U0;have HI:=zH y;have bj:=zH a7;have bm:=zH a8;have ah:=zH ao;have ba:=zH (show i0.bytes*rows.length<=281474976710656 by rw[a9];omega);have bb:=zH (show rows.length<=maxLen by unfold maxLen;omega);have HX:=zH ((box3 w p m Am mod.length cm N A rows.length c 54 (Cv)).keep (zV.alloc zn (Cb N A rows.length c)));have ag:zK (((((w.alloc (C3 p m Am mod.length cm)).alloc (Cb N A rows.length c)).alloc (Cq)).alloc (Cb N A rows.length c)).heap[w.heap.size+1+1+1]?=some (Cb N A rows.length c)):=by have:=heap_alloc_new (((w.alloc (C3 p m Am mod.length cm)).alloc (Cb N A rows.length c)).alloc (Cq)) (Cb N A rows.length c);rw[show(((w.alloc (C3 p m Am mod.length cm)).alloc (Cb N A rows.length c)).alloc (Cq)).heap.size=w.heap.size+1+1+1 by simp] at this;exact this
 have HM:=zH hM;have HA:=zH hA;have bg:zK (∀k,k<rows.length->(rows.getD k []).length=N):=fun k hk=>by
  have:rows.getD k []=rows[k]:=by simp[List.getD,hk]
  rw[this];exact b0 _ (List.getElem_mem hk)
 clear hM hA y a7 a8 a9 ao b0 bz;go_enter func179,ntmps179;go_wp2_with fail;generalize (((w.alloc (C3 p m Am mod.length cm)).alloc (Cb N A rows.length c)).alloc (Cq)).alloc (Cb N A rows.length c)=W0 at *;have ay:(nzs rows).length<=9223372036854775807:=by rw[nzs_len];omega
 have HC:=zH (open_c p m mod Am cm N (nzs rows) A c (w.heap.size+1+1+1) 1 W0 ((HM.o.keep HX.o.below).more HX.o.below.size) hl ((HA.o.keep HX.o.below).more HX.o.below.size) ay (by rw[nzs_len];exact ag.o));go_fit HC.o;rintro e d ⟨aa,hcase⟩;have g:=zH (HX.o.keep aa);have ae:=zH ((HA.o.keep g.o.below).more g.o.below.size);clear HX HM HA HC ag aa;clear W0;rcases hcase with⟨S,_⟩|⟨_,bq,_⟩|⟨_,_,gb,rfl,hg⟩
 . rw[a2] at S;cases S
 . exact absurd hz bq
 clear hg a2 hz;have bt:w.heap.size+1<d.heap.size:=by have:=g.o.size;omega
 have D:=zH<|trR_len N rows
 have al:=zH<|fun k hk=>trR_getD N rows k hk
 generalize hT:trR N rows=T at *;clear hT;have a0:d.cell? (zA (w.heap.size+1) 0)=some (Y (N:Int)):=cell_of_row _ _ 0 _ _ _ g.o.k1;have a1:d.cell? (zA (w.heap.size+1) 1)=some (zL A rows.length c):=cell_of_row _ _ 1 _ _ _ g.o.k1;have aj:zK (RelG4 d rows.length N T (zP (d.heap.size+1)) ((d.alloc (.cells zs 23)).alloc (Cl (rows.length:Int) d.heap.size N N)).drew):=by
  refine⟨d.heap.size+1,d.heap.size,rfl,?_,?_,U0,U0,U2,U0,((zV.alloc zn _).alloc U2 _).drew⟩
  . have:=heap_alloc_new (d.alloc (.cells zs 23)) (Cl (rows.length:Int) d.heap.size N N);rw[show(d.alloc (.cells zs 23)).heap.size=d.heap.size+1 by simp] at this;exact this
  . have O:=ah.o d d.heap.size T D.o zn;exact⟨O.len,O.le,own_below O.out (heap_alloc_old _ _ U2),fun i y=>absurd y (Nat.not_lt_zero i),fun i _ y=>absurd y (Nat.not_lt_zero i)⟩
 have ak:zK (RelG4 d rows.length N T (zP d.heap.size) ((d.alloc (Cl (rows.length:Int) (d.heap.size+1) N N)).alloc (.cells zs 23)).drew):=by
  refine⟨d.heap.size,d.heap.size+1,rfl,?_,?_,U0,U0,so,U0,((zV.alloc zn _).alloc U2 _).drew⟩
  . exact(heap_alloc_old _ _ U2).trans (heap_alloc_new _ _)
  . have O:=ah.o (d.alloc (Cl (rows.length:Int) (d.heap.size+1) N N)) d.heap.size T D.o U2;rw[show(d.alloc (Cl (rows.length:Int) (d.heap.size+1) N N)).heap.size=d.heap.size+1 by simp] at O;exact⟨O.len,O.le,own_below O.out rfl,fun i y=>absurd y (Nat.not_lt_zero i),fun i _ y=>absurd y (Nat.not_lt_zero i)⟩
 go_upto_region 4 with fail;go_cut [8] (fun v8 wx=>RelG4 d rows.length N T v8 wx);case first =>
  go_region_held3 (fun w'=>w'.cell? (zA (w.heap.size+1) 0)=some (Y (N:Int))/\w'.cell? (zA (w.heap.size+1) 1)=some (zL A rows.length c)) (go_keep) (fail)
  all_goals
   clear a0 a1 L
   go_wp2
   go_meet
   first
    |exact aj.o
    |exact ak.o
 case rest =>
  obtain⟨b,R,rfl,ab,ar,aa,ap,E,av,l⟩:=hcut;have V:=zH ab;have C:=zH l;have U:=zH (ae.o.keep l);have Z:=zH (g.o.keep l);have J:=l.size;have b1:wc.cell? (zA b 1)=some (zS R N N):=cell_of_row _ _ 1 _ _ _ ab;clear ab a0 a1 aj ak L;have ai:zK (RelG6 d wc b R N T (Y ((0:Nat):Int)) wc):=⟨0,[],U0,rfl,ar,rfl,E,l⟩;go_wp2_with fail;clear ar l J U Z;go_loopw [33] (fun v33 wr=>RelG6 d wc b R N T v33 wr) (fun v33 _=>N-(intOf v33).toNat);case atStart=>exact ai.o
  case round =>
   obtain⟨k,bs,hk,rfl,H,aw,E,l⟩:=hrel;have v:=zH H;have I:=zH aw;have C:=zH l;clear H aw l ai;by_cases ac:k<N
   . obtain ⟨f,rfl⟩ : ∃ w',w' = wr := ⟨wr,rfl⟩;have J:=C.o.size;have U:=zH (ae.o.keep C.o);have Z:=zH (g.o.keep C.o);have b1:f.cell? (zA b 1)=some (zS R N N):=cell_of_row _ _ 1 _ _ _ (I.o.trans V.o);have a1:f.cell? (zA (w.heap.size+1) 1)=some (zL A rows.length c):=cell_of_row _ _ 1 _ _ _ Z.o.k1;have aq:=World.ownsRow.lt v.o.out R rfl;have x:=D.o;(have r0:f.cell? (zA R k)=some (zL none 0 0):=by rw [World.ownsRow.cellAt v.o.out k U0,List.getElem?_append_right U2,List.length_map,List.length_range,Nat.sub_self,List.getElem?_replicate,if_pos U0]);have rf:=World.ownsRow.frozenAt v.o.out k;have a4:=(World.ownsRow.stored v.o.out k (zS f.heap.size rows.length rows.length)).1;(have bf:zK (∀ W:Wo,Below f.heap.size (f.setCell (zA R k) (zS f.heap.size rows.length rows.length)) W->W.cell? (zA R k)=some (zS f.heap.size rows.length rows.length)):=fun W hW=>by rw [hW.cell (p:=(zA R k)) aq.2,World.ownsRow.cellAt a4 k U0,List.getElem?_set,if_pos rfl,if_pos so]);(have bd:zK (∀ t,t<rows.length->(T.getD k []).getD t 0=(rows.getD t []).getD k 0):=fun t ht=>by rw [al.o k ac];simp [List.getD,ht]);(have s:zK ((T.getD k []).length=rows.length):=by show _=_;rw [al.o k ac];simp);(have bc:zK (∀ W':Wo,TDoG f R k rows.length (T.getD k []) W'->PGrid W' d.heap.size R T (bs++[(f.heap.size,rows.length)]) (k+1)):=fun W' hW'=>by refine v.o.late (by rw [D.o];exact ac) rfl ?_ J hW'.2;rw [s.o];exact hW'.1);have bw:=aq.2;clear a4 x;generalize a3:T.getD k []=q at *;clear a3;have k0:(0:Int)<=(k:Int):=U0;have k1:(k:Int)<(N:Int):=U0;have bo:w.heap.size+1≠R:=U0;have Q:w.heap.size+1<f.heap.size:=U0;obtain ⟨zz,ad⟩:∃ zz,zz=madeCells (Y 0).cells (rows.length*1):=⟨_,rfl⟩;have bn:=zH ad;(have L:=fun W=>by have:=run_make (P:=prog) W 23 3 i0 (Y 0) underlying23 HI.o bj.o .i64 .i64 (rows.length:Int) (rows.length:Int) U0 (Int.le_refl _) (by have:=ba.o;omega) U0;rw [bm.o,Int.toNat_natCast,<- ad] at this;exact this);clear ad;have X:zK (RelG7 f R k rows.length q (Y ((0:Nat):Int)) (((f.setCell (zA R k) (zS f.heap.size rows.length rows.length)).alloc (.cells zz 3)).drew)):=by
      refine⟨0,U0,rfl,?_,?_⟩
      . exact((Below.refl f.heap.size _).alloc U2 _).drew
      . have:=row_zz (f.setCell (zA R k) (zS f.heap.size rows.length rows.length)) (B:=f.heap.size) bn.o U2 bb.o;rw[show(f.setCell (zA R k) (zS f.heap.size rows.length rows.length)).heap.size=f.heap.size by simp] at this;(have hs:scK (fun r=>r) q 0=List.replicate rows.length 0:=by simp[scK,s.o]);rw[hs];exact this.below zV.drew this.lt.2
     have q1:∀(u:Value)(o:Obj),((f.setCell (zA R k) u).alloc o).drew.cell? (zA b 1)=some (zS R N N):=fun u o=>
      (World.cell?_alloc_lt _ _ _ (by simpa using E)).trans ((World.cell?_setCell_other _ _ _ _ (by intro h;simp only[Addr.mk.injEq] at h;omega)).trans b1)
     have q2:∀(u:Value)(o:Obj),((f.setCell (zA R k) u).alloc o).drew.cell? (zA (w.heap.size+1) 1)=some (zL A rows.length c):=fun u o=>
      (World.cell?_alloc_lt _ _ _ (by simpa using Q)).trans ((World.cell?_setCell_other _ _ _ _ (by intro h;simp only[Addr.mk.injEq] at h;omega)).trans a1)
     go_upto_region 8 with fail;go_region_held3 (fun w'=>w'.cell? (zA b 1)=some (zS R N N)/\w'.cell? (zA (w.heap.size+1) 1)=some (zL A rows.length c)) (first|(with_reducible exact⟨q1 _ _,q2 _ _⟩)|go_keep) (fail)
     all_goals
      clear L q1 q2 r0 rf b1
      generalize ((f.setCell (zA R k) (zS f.heap.size rows.length rows.length)).alloc (.cells zz 3)).drew=W5 at *
      have a5:=(X.o.at5 bo Q).trans a1
      clear a1
      go_wp2
      go_loopw [47] (fun v47 wr=>RelG7 f R k rows.length q v47 wr) (fun v47 _=>rows.length-(intOf v47).toNat)
      case atStart=>exact X.o
      case round =>
       obtain⟨t,ht,rfl,hd⟩:=hrel
       have M:=zH hd
       clear hd X
       by_cases x:t<rows.length
       . obtain ⟨bA,oA,Ai,ci,rfl,bu,hc,y⟩ := (U.o.keep (M.o.low ap J)).at_ (i := t) (by rw [nzs_len];exact x)
         rw[nzs_getD] at hc y
         rw[qaA] at hc
         have b0:=bg.o t x
         have az:=bd.o t x
         obtain⟨br,bx,rfl,bv,ax⟩:=y.at_ (k:=k) (by rw[qaA];omega)
         rw[qaC] at ax
         rw[b0] at hc
         rw[<- az] at ax
         have bi:=zH (scK_set (fun r=>r) q t (by rw[s.o];exact x))
         have f0:=M.o.2.frozen t
         have c0:=M.o.2.cell (j:=t) (by rw[qaA,scK_len _ q t (by rw[s.o];exact ht),s.o];exact x)
         have b2:wr.cell? (zA b 1)=some (zS R N N):=(M.o.cell E av).trans (cell_of_row _ _ 1 _ _ _ (I.o.trans V.o))
         have r2:=bf.o _ M.o.1
         have t0:(0:Int)<=(t:Int):=U0
         have t1:(t:Int)<(rows.length:Int):=U0
         clear y az
         generalize q.getD t 0=z at *
         go_upto_region 12 with fail
         refine qaI 11 (SDrew wr) U1 U1 ⟨1,rfl⟩ ?_
         simp only[List.take_succ_cons,List.take_zero,List.drop_succ_cons,List.drop_zero]
         repeat (apply qaJ rfl
                 . intro W hS
                   obtain⟨n,rfl⟩:=hS
                   go_simp
                   rfl
                 go_simp)
         refine qaE ?_
         intro w2 bp
         obtain⟨n,rfl⟩:=bp
         go_wp2
         go_roundw
         case rel=>
          refine⟨t+1,U0,gn,(qaB M.o.1 n).setCell (p:=(zA f.heap.size t)) zn _,?_⟩
          rw[<- bi.o,<- qbC]
          exact Row.set (w:=wr.drewN n) M.o.2 t _
         case measure=>simp[intOf];omega
       . obtain rfl : t = rows.length := by omega
         have K:zK (TDoG f R k rows.length q wr):=by
          have:=M.o
          rw[show scK (fun r=>r) q rows.length=q by unfold scK;rw[s.o,Nat.sub_self,List.replicate_zero,List.append_nil,<- s.o,List.take_length,List.map_id']] at this
          exact this
         go_wp2
         go_roundw
         case rel=>
          have a6:=K.o.1.size
          simp at a6
          exact⟨k+1,_,U0,gn,bc.o _ K.o,(K.o.block E av).trans I.o,Nat.lt_of_lt_of_le E a6,C.o.trans (K.o.low ap J)⟩
         case measure=>simp[intOf];omega
   . (obtain rfl:k=N:=by omega);have an:=zH (g.o.keep C.o);have af:=zH an.o.k2;have HY:=zH (an.o.set (Cm (rows.length:Int) R k k));(have be:=zH<|qeS (I.o.trans V.o));have H:=v.o;rw[<- D.o] at H;(have bh:=zH<|H.done.rowsAt T zn (fun _ _=>rfl));have au:w.heap.size+1+1<d.heap.size:=g.o.size;clear H;clear g v I b1;go_wp2_with (first|(refine wpList_load_mid rfl 54 (.tmp 8) rfl b 0 rfl (D8 (rows.length:Int) R k k) _ be.o underlying54 rfl matSize ?_)|(refine wpList_store_row rfl 54 (.tmp 4) (.tmp 65) rfl wr (w.heap.size+1+1) 54 (Cv) (Cm (rows.length:Int) R k k) rfl rfl af.o matSize rfl U3 ?_));refine bodyPost_ret (results_row_one (P:=prog) rfl _ _ (w.heap.size+1+1) 54 (Cm (rows.length:Int) R k k) (0,0) _ _ rfl rfl HY.o.k2 underlying54 rfl matSize) rfl ?_;exact⟨⟨some (zA R 0),k,by rw[D.o];rfl,(bh.o.setRow au _).lower (Nat.le_of_lt (by omega:w.heap.size<d.heap.size))⟩,HY.o.below⟩
end Go.Proofs.YtocbdafcolbfeaaGreat
