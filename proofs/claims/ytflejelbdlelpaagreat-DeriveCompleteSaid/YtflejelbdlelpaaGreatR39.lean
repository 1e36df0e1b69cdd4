/- Parts of the proof. -/
import Derived.Test.YtflejelbdlelpaaGreatR23
set_option maxRecDepth 100000
set_option maxHeartbeats 8000000
namespace Go.Proofs.YtflejelbdlelpaaGreat
open Go.RowKit Pln Go.Proofs.Tryz
theorem getD_set_i{l:LI}{i j:Nat}{x:Int}(b:i<l.length):(l.set i x).getD j 0=if i=j then x else l.getD j 0:=by
 simp only[List.getD,List.getElem?_set];by_cases e:i=j
 . rw[if_pos e,if_pos e,if_pos b];rfl
 . rw[if_neg e,if_neg e]
def RelN1x(w1:Wo)(cols:Nat)(v10:Value)(wr:Wo):Prop:=
 ∃(k:Nat)(zs:LI),k<=cols/\v10=Y k/\Row wr w1.heap.size w1.heap.size cols zs/\zs.length=cols/\(∀i,i<k->zs.getD i 0=-1)/\zB w1 wr
def RelN2x(w1:Wo)(cols np:Nat)(piv:LN)(v11:Value)(wr:Wo):Prop:=
 ∃(k:Nat)(zs:LI),k<=np/\v11=Y k/\Row wr w1.heap.size w1.heap.size cols zs/\zs.length=cols/\(∀i,i<cols->(0<=zs.getD i 0 ↔ i∈piv.take k))/\zB w1 wr
def RelN3x(w3:Wo)(q cols:Nat)(F:Nat->LL)(v12 v13:Value)(wr:Wo):Prop:=
 ∃(t:Nat)(R:LL)(bs:List (Nat × Nat)),t<=cols/\v13=Y t/\LGrid wr w3.heap.size v12 R bs R.length/\R.length<=t/\RowsOk q cols R/\R=F t/\zB w3 wr
def RelN4x(w4:Wo)(q cols np:Nat)(K:Nat->LN)(v15:Value)(wr:Wo):Prop:=
 ∃(i:Nat)(l:LN),i<=np/\v15=Y i/\Row wr w4.heap.size w4.heap.size cols (nz l)/\l.length=cols/\(∀x∈l,x<q)/\l=K i/\zB w4 wr
def NullPostX(w:Wo)(q cols:Nat)(K:LL)(e:Ending)(w':Wo):Prop:=
 (∃(A':OA)(R:LL)(ck:Nat),e=.returned (zL A' R.length ck)/\zR w' A' (nzs R)/\Grid q R.length cols R/\R.length<=256/\R=K)/\zB w w'
theorem rnull_x(p m:Nat)(md:LN)(A:OA)(n cA:Nat)(rows:LL)(A2:OA)(c2 cols:Nat)(w:Wo)(hR:RFld p m md A n w.heap.size w)(hf:∃ l,FT p m md l)(cr:Grid (p ^ m) rows.length cols rows)(hA:zR w A2 (nzs rows))(h1:1<=cols)(hc:cols<=256)(hn:rows.length<=256):
 zC 25 #[C4 p m A n cA,zL A2 rows.length c2,Y cols] w (NullPostX w (p^m) cols (kerM (refOps p m md) rows cols)):=by
 have HX:=zH (bx_new w (C5 p m A n cA) 24);have HE:=zH (qeI hR hf);have fp:1<p^m:=by have h1:=hR.small.p1;have h2:=hR.small.m1;exact Nat.one_lt_pow U0 U0
 have Z:zK (∀(R:LL)(A2:OA)(c2:Nat)(W:Wo),zB w W->Grid (p^m) R.length cols R->zR W A2 (nzs R)->R.length<=256->zC 23 #[C4 p m A n cA,zL A2 R.length c2,Y cols] W fun e w'=>(∃(A':OA)(ck:Nat)(VA:OA)(c3:Nat),e=.returned (.tuple #[zL A' (canonM (refOps p m md) R cols).length ck,zL VA (elGo (refOps p m md) R cols).piv.length c3])/\RowsUp w' W.heap.size A' (nzs (canonM (refOps p m md) R cols))/\zI w' VA (nz (elGo (refOps p m md) R cols).piv))/\zB W w'):=fun R A2 c2 W V hg hra hl=>
  rcanon_c p m md A n cA R A2 c2 cols W ((hR.keep V).more V.size) hf hg hra h1 hc hl
 have ai:zK (∀(x:Nat)(W:Wo),x<p^m->zC 38 #[C4 p m A n cA,Y x] W fun e w'=>e=.returned (Y (((refOps p m md).neg x:Nat):Int))/\zB W w'):=fun x W hx=>rneg_c p m A n cA x W hR.small hx;have aa:zK (∀R:LL,Grid (p^m) R.length cols R->Grid (p^m) (canonM (refOps p m md) R cols).length cols (canonM (refOps p m md) R cols)):=fun R hg=>by rw[canonM_len];exact canon_grid HE.o hg
 have X:zK (∀R:LL,(canonM (refOps p m md) R cols).length=(elGo (refOps p m md) R cols).piv.length/\(elGo (refOps p m md) R cols).piv.length<=R.length):=fun R=>⟨canonM_len _ _ _,(qeN (O:=refOps p m md) R cols).2⟩;have b0:zK (∀i,i<(elGo (refOps p m md) rows cols).piv.length->(elGo (refOps p m md) rows cols).piv.getD i 0<cols):=fun i J=>by
  have:∀(l:LN)(hj:i<l.length),l.getD i 0=l[i]:=fun l hj=>by simp[List.getD,hj]
  rw[this _ J];exact elGo_piv_lt _ _ _ _ (List.getElem_mem _)
 obtain⟨i0,J,dh,di,dj⟩:=qaF infoInt;obtain⟨fc,c6,aj,ak,al⟩:=qaF infoInts;have HI:=zH J;have cg:=zH dh;have cl:=zH di;have dv:=zH c6;have cj:=zH aj;have cm:=zH ak;have cn:=zH al;have bc:=zH (show i0.bytes*cols<=281474976710656 by rw[dj];omega);have bd:=zH (show cols<=maxLen by unfold maxLen;omega);have ar:=zH cr;have HA:=zH hA;clear J dh di dj c6 aj ak al hR hf cr hA;have dy:zK (canonM (refOps p m md) (kerRows (refOps p m md) (canonM (refOps p m md) rows cols) (elGo (refOps p m md) rows cols).piv cols) cols=kerM (refOps p m md) rows cols):=rfl;generalize kerM (refOps p m md) rows cols=KM at *;generalize refOps p m md=O at *;generalize p^m=q at *;go_enter func25,ntmps25;go_upto_region 1 with fail;generalize w.alloc (C2 p m A n cA)=W0 at *;have ac:=zH HX.o.range;have bg:=zH (Z.o rows A2 c2 W0 HX.o.below ar.o ((HA.o.keep HX.o.below).more HX.o.below.size) hn);obtain⟨cw,fn⟩:=X.o rows;have dp:=zH (aa.o rows ar.o);clear HA ar;generalize (elGo O rows cols).piv=b at *;generalize canonM O rows cols=K at *;go_wp2_with (refine wpList_load_mid rfl 24 (.tmp 3) rfl w.heap.size 0 rfl (C5 p m A n cA) _ ac.o underlying24 rfl fieldSize ?_);go_fit bg.o;rintro e w1 ⟨⟨A',ck,VA,c3,rfl,hra,hia⟩,hb1⟩;have cf:=zH (HX.o.grow hb1);have b3:=zH hra.rowsAt;have au:=zH hia;clear hb1 hra hia bg HX ac;clear W0;have fo:b.length<=256:=U0;generalize a8:b.length=E at *;go_wp2_with (refine wpList_make_full w1 rfl (.tmp 23) (.tmp 23) 22 rfl w1.heap.size 3 i0 (Y 0) 1 underlying22 HI.o cg.o cl.o .i64 .i64 cols cols cols rfl rfl rfl rfl bc.o bd.o zn ?_;intro w2 s C);have b9:zK (RelN1x w1 cols (Y ((0:Nat):Int)) w2):=⟨0,nz (List.replicate cols 0),Nat.zero_le _,rfl,by have:=Row.of_make s;exact this,by rw[qaA];simp,fun i h=>absurd h U0,qaL C⟩;clear s C;go_wp2;go_loopw [10] (fun v10 wr=>RelN1x w1 cols v10 wr) (fun v10 _=>cols-(intOf v10).toNat);case atStart=>exact b9.o
 case round =>
  obtain⟨k,zs,hk,rfl,f,U,da,I⟩:=hrel;have P:=zH f;have B:=zH I;have av:=zH da;clear f I da b9;by_cases ag:k<cols
  . (have k0 : (0 : Int) <= (k : Int) := by omega);have k1:(k:Int)<(cols:Int):=U0;have ba:IntKind.i64.wrap ((k:Int)+1)=(k:Int)+1:=IntWalk.i64_in _ U0;have f0:=P.o.frozen k;have y0:=P.o.cell (j:=k) U0;have ax:=zH (P.o.set k (-1));have an:=zH (B.o.setCell (p:=(zA w1.heap.size k)) zn (Y (-1)));go_wp2;go_roundw
    case rel=>exact ⟨k+1,zs.set k (-1),U0,U3,ax.o,by rw [List.length_set];exact U,(fun i J=>by
     rw[getD_set_i U0]
     by_cases e:i=k
     . rw[if_pos e.symm]
     . rw[if_neg fun e2=>e e2.symm]
       exact av.o i U0),an.o⟩
    case measure=>simp[intOf];omega
  . (have k1 : ¬ (k : Int) < (cols : Int) := by omega)
    have cd:zK (RelN2x w1 cols E b (Y ((0:Nat):Int)) wr):=⟨0,zs,Nat.zero_le _,rfl,P.o,U,(fun i J=>by
     rw[av.o i U0]
     simp),B.o⟩
    clear P B av U;obtain rfl:cols=k:=U0;clear hk k1 ag;clear zs;obtain⟨fu,rfl⟩:∃w',w'=wr:=⟨_,rfl⟩;go_wp2;go_loopw [11] (fun v11 wr=>RelN2x w1 cols E b v11 wr) (fun v11 _=>E-(intOf v11).toNat);case atStart=>exact cd.o
    case round =>
     obtain⟨k,zs,hk,rfl,f,U,db,I⟩:=hrel;have P:=zH f;have B:=zH I;have aw:=zH db;clear f I db cd;by_cases ag:k<E
     . obtain ⟨bp,op,rfl,d7,S⟩ := (au.o.keep B.o).at_ (k := k) (by rw [qaA,a8];exact ag);rw [qaC] at S;have fb:=b0.o k ag;(have d3:zK (b.take (k+1)=b.take k++[b.getD k 0]):=by show _=_;rw [List.take_succ_eq_append_getElem U0];simp [List.getD,show k<b.length by omega]);generalize b.getD k 0=v at *;have k0:(0:Int)<=(k:Int):=U0;have k1:(k:Int)<(E:Int):=U0;have p0:(0:Int)<=(v:Int):=U0;have p1:(v:Int)<(cols:Int):=U0;have ba:IntKind.i64.wrap ((k:Int)+1)=(k:Int)+1:=IntWalk.i64_in _ U0;have f0:=P.o.frozen v;have y0:=P.o.cell (j:=v) U0;have ax:=zH (P.o.set v (k:Int));have an:=zH (B.o.setCell (p:=(zA w1.heap.size v)) zn (Y (k:Int)));go_wp2;go_roundw
       case rel=>exact ⟨k+1,zs.set v (k:Int),U0,U3,ax.o,by rw [List.length_set];exact U,(fun i J=>by
        rw[getD_set_i U0,d3.o,List.mem_append,List.mem_singleton]
        by_cases e:v=i
        . rw[if_pos e]
          exact⟨fun _=>.inr e.symm,fun _=>k0⟩
        . rw[if_neg e,aw.o i J]
          exact⟨fun h=>.inl h,fun h=>h.elim id fun h=>absurd h.symm e⟩),an.o⟩
       case measure=>simp[intOf];omega
     . (have k1 : ¬ (k : Int) < (E : Int) := by omega);obtain ⟨w3,rfl⟩:∃ w',w'=wr:=⟨_,rfl⟩;have a1:=zH (cf.o.grow B.o);have b6:=zH ((b3.o.keep B.o).more B.o.size);have bn:=zH ((au.o.keep B.o).more B.o.size);have d8:=P.o.lt.2;obtain ⟨F,hF⟩:∃ F:Nat->LL,(fun t=>(freeC b t).map fun c=>kerK O K b cols c E)=F:=⟨_,rfl⟩;have dt:zK (∀ t,t<cols->(0<=zs.getD t 0->F (t+1)=F t)/\(¬ 0<=zs.getD t 0->F (t+1)=F t++[kerK O K b cols t E])):=fun t ht=>by
        have h1:=aw.o t ht;rw[show k=b.length by omega,List.take_length] at h1;rw[<- hF];refine⟨fun h=>?_,fun h=>?_⟩
        . show(freeC b (t+1)).map _=(freeC b t).map _;rw[freeC_succ,if_pos (h1.1 h),List.append_nil]
        . show(freeC b (t+1)).map _=(freeC b t).map _++_;rw[freeC_succ,if_neg fun e=>h (h1.2 e),List.map_append];rfl
       (have bi:zK ([]=F 0):=by rw[<- hF];rfl);(have ds:zK (F cols=kerRows O K b cols):=by rw[<- hF];show(freeC b cols).map _=_;unfold kerRows;rw[a8]);clear hF aw;have bq:zK (RelN3x w3 q cols F (zL none 0 0) (Y ((0:Nat):Int)) w3):=⟨0,[],[],U0,rfl,⟨rfl,Nat.zero_le _,World.ownsRow_nil _ _ _ _,fun i J=>by simp at J,fun i J=>by simp at J⟩,Nat.zero_le _,fun r hr=>by simp at hr,bi.o,Below.refl _ _⟩;clear bi;clear cf b3 au B;go_wp2_with fail;generalize w1.heap.size=g1 at *;go_loopw [12,13] (fun v12 v13 wr=>RelN3x w3 q cols F v12 v13 wr) (fun _ v13 _=>cols-(intOf v13).toNat);case atStart=>exact bq.o
       case round =>
        obtain⟨t,R,bs,ht,rfl,a6,fq,de,dd,I⟩:=hrel;have az:=zH dd;clear dd;obtain⟨VO,co,rfl,_⟩:=own_slice' a6.out;have N:=zH a6;have B:=zH I;have a0:=zH de;have dg:=I.size;clear a6 I de bq;obtain⟨g,rfl⟩:∃w',w'=wr:=⟨_,rfl⟩;by_cases D:t<cols
        . (have t0 : (0 : Int) <= (t : Int) := by omega);have t1:(t:Int)<(cols:Int):=U0;have ba:IntKind.i64.wrap ((t:Int)+1)=(t:Int)+1:=IntWalk.i64_in _ U0;have y0:g.cell? (zA g1 t)=some (Y (zs.getD t 0)):=(B.o.cell (p:=(zA g1 t)) d8).trans (P.o.cell U0);obtain ⟨cx,cy⟩:=dt.o t D;have ao:=zH cx;have ap:=zH cy;clear cx cy;generalize zs.getD t 0=z at *;by_cases hz:0<=z
          . have dr:=zH (ao.o hz);clear ao ap;go_wp2;go_roundw;case rel=>exact⟨t+1,R,bs,U0,U3,N.o,U0,a0.o,by rw[dr.o];exact az.o,B.o⟩
            case measure=>simp[intOf];omega
          . have bj := zH (ap.o U0);clear ao ap;obtain ⟨KK,ad⟩:∃ KK:Nat->LN,(fun i=>kerK O K b cols t i)=KK:=⟨_,rfl⟩;(have dw:zK ((List.replicate cols 0).set t 1=KK 0):=by rw [<- ad];rfl);(have dz:zK (∀ i,KK (i+1)=(KK i).set (b.getD i 0) (O.neg ((K.getD i []).getD t 0))):=fun i=>by rw [<- ad];rfl);(have bo:zK (kerK O K b cols t E=KK E):=by rw [<- ad];rfl);clear ad;rw [bo.o] at bj;clear bo;go_upto_region 16 with fail;go_wp2_with (refine wpList_make_full g rfl (.tmp 56) (.tmp 56) 22 rfl g.heap.size 3 i0 (Y 0) 1 underlying22 HI.o cg.o cl.o .i64 .i64 cols cols cols rfl rfl rfl rfl bc.o bd.o zn ?_;intro w5 s C;have r0:w5.cell? (zA g.heap.size t)=some (Y 0):=(by have h:=(Row.of_make s).cell (j:=t) (by rw [qaA,List.length_replicate];exact D);rw [qaC,show (List.replicate cols 0).getD t 0=0 from by simp [List.getD,D]] at h;exact h);have rf:=(Row.of_make s).frozen t);(have b1:zK (Row w5 g.heap.size g.heap.size cols (nz (List.replicate cols 0))):=by have:=Row.of_make s;exact this);have be:zK (zB g w5):=qaL C;have bm:zK (RelN4x g q cols E KK (Y ((0:Nat):Int)) (w5.setCell (zA g.heap.size t) (Y 1))):=by
             refine⟨0,(List.replicate cols 0).set t 1,U0,rfl,?_,U2,?_,dw.o,be.o.setCell (p:=(zA g.heap.size t)) zn _⟩
             . have:=b1.o.set t 1;rw[show(1:Int)=((1:Nat):Int) from rfl,qbC] at this;exact this
             . intro x hx;rcases List.mem_or_eq_of_mem_set hx with h|h
               . rw[List.mem_replicate] at h;omega
               . omega
            clear s C b1 be;generalize w5.setCell (zA g.heap.size t) (Y 1)=W6 at *;clear r0 rf y0;go_loopw [15] (fun v15 wr=>RelN4x g q cols E KK v15 wr) (fun v15 _=>E-(intOf v15).toNat);case atStart=>exact bm.o
            case round =>
             obtain⟨i,l,J,rfl,f,a7,c8,c7,I⟩:=hrel;have ah:=zH c7;clear c7;have Q:=zH f;have L:=zH I;have bu:=zH c8;have fg:=I.size;clear f I c8 bm;have H:=zH (B.o.trans (L.o.mono dg));by_cases af:i<E
             . obtain ⟨bp,op,rfl,d7,S⟩ := (bn.o.keep H.o).at_ (k := i) (by rw [qaA,a8];exact af);rw [qaC] at S;obtain ⟨br,dm,Ai,ci,e,fi,ae,a9⟩:=(b6.o.keep H.o).at_ (i:=i) (by rw [nzs_len,cw];exact af);subst e;rw [nzs_getD] at ae a9;have hg:=dp.o.row (i:=i) (by rw [cw];exact af);rw [qaA,hg.1] at ae;obtain ⟨bx,ox,rfl,fj,a3⟩:=a9.at_ (k:=t) (by rw [qaA,hg.1];exact D);rw [qaC] at a3;(have bb:(K.getD i []).getD t 0<q:=by (have:∀ (l:LN)(hj:t<l.length),l.getD t 0=l[t]:=fun l hj=>by simp [List.getD,hj]);rw [this _ (by rw [hg.1];exact D)];exact hg.2 _ (List.getElem_mem _));have fb:=b0.o i af;have fa:=(HE.o.neg _ bb).2;have bw:zK (∀ W,zC 38 #[C4 p m A n cA,Y (((K.getD i []).getD t 0:Nat):Int)] W fun e w'=>e=.returned (Y ((O.neg ((K.getD i []).getD t 0):Nat):Int))/\zB W w'):=fun W=>ai.o _ W bb;have fs:(0:Int)<=(i:Int):=U0;have fe:(i:Int)<(E:Int):=U0;have ft:(i:Int)<(K.length:Int):=U0;have dx:=zH (dz.o i);clear a9 hg bb;generalize O.neg ((K.getD i []).getD t 0)=y at *;generalize (K.getD i []).getD t 0=x at *;generalize b.getD i 0=v at *;have p0:(0:Int)<=(v:Int):=U0;have p1:(v:Int)<(cols:Int):=U0;have ba:IntKind.i64.wrap ((i:Int)+1)=(i:Int)+1:=IntWalk.i64_in _ U0;have HS:zK (NSc w (C5 p m A n cA) bp op br dm bx ox i t cols ci v x wr.drew):=⟨(a1.o.grow H.o).grow zV.drew,S,ae,a3⟩;have ay:=zH (Q.o.below (Below.refl _ wr).drew Q.o.lt.2);have M:=zH (L.o.drew);clear Q L H ai HE Z aa X S ae a3;go_upto_region 21 with fail;refine qaS 14 14 (NSc w (C5 p m A n cA) bp op br dm bx ox i t cols ci v x) [(1,0),(1,1),(1,2),(1,3),(0,4),(0,5),(1,6),(1,7),(1,8),(0,9),(1,10),(1,11),(0,12),(2,13)] default U1 U1 (fun _ _ d _ _ h=>by cases d <;> exact h) HS.o ?_;generalize wr.drew=Wd at *;simp only [List.map_cons,List.map_nil,List.getD_cons_zero,List.getD_cons_succ]
               iterate 4
                apply qaM rfl
                . intro W
                  go_simp
                  rfl
                go_simp
               apply qbF rfl
               . intro W V;have z0:=V.2.1;go_simp;rfl
               go_simp;refine qaT rfl 24 (.tmp 3) rfl w.heap.size 0 rfl (C5 p m A n cA) _ (fun W V=>V.1.range) underlying24 rfl fieldSize ?_;go_simp
               iterate 3
                apply qaM rfl
                . intro W
                  go_simp
                  rfl
                go_simp
               apply qbF rfl
               . intro W V;have z0:=V.2.2.1;go_simp;rfl
               go_simp
               iterate 2
                apply qaM rfl
                . intro W
                  go_simp
                  rfl
                go_simp
               apply qbF rfl
               . intro W V;have z0:=V.2.2.2;go_simp;rfl
               go_simp;apply qbE rfl
               . go_simp;exact⟨rfl,rfl⟩
               (with_reducible refine(bw.o Wd).mono ?_);rintro e w7 ⟨rfl,hb7⟩;have ce:=zH (HS.o.keep hb7);have ab:=zH (ay.o.below hb7 ay.o.lt.2);have bf:=zH (M.o.trans (hb7.mono M.o.size));refine⟨_,rfl,ce.o,?_⟩;go_simp;refine qbH ?_;show wpList _ _ _ _ _ _;go_simp;have f0:=ab.o.frozen v;have y0:=ab.o.cell (j:=v) (by rw[qaA];omega);have b2:=zH (ab.o.set v (y:Int));rw[qbC] at b2;have dn:=zH (bf.o.setCell (p:=(zA g.heap.size v)) zn (Y (y:Int)));have d0:zK (∀z∈l.set v y,z<q):=fun z hz=>(List.mem_or_eq_of_mem_set hz).elim (bu.o z) (fun h=>h ▸ fa);clear hb7 HS ay M bw ab bf ce;go_wp2;go_roundw;case rel=>exact⟨i+1,l.set v y,U0,U3,b2.o,by rw[List.length_set];exact a7,d0.o,by rw[dx.o,ah.o],dn.o⟩
               case measure=>simp[intOf];omega
             . (have fe : ¬ (i : Int) < (E : Int) := by omega);have d2:zK (RowsOk q cols (R++[l])):=fun r hr=>by
                rcases List.mem_append.1 hr with h|h
                . exact a0.o r h
                . rw[List.mem_singleton] at h;subst h;exact⟨a7,bu.o⟩
               have cz:(R++[l]).getD R.length []=l:=qeO R l [];have bv:=zH (N.o.wide l);(have bz:zK ((wr.alloc (.cells #[zS g.heap.size cols cols] 22)).ownsRow w3.heap.size 22 1 (zL VO R.length co) R.length ((List.range R.length).map (hdr (R++[l]) bs))):=by have d9:=(bv.o.grow L.o).out;exact World.ownsRow.alloc d9 _);have ff:=H.o.size;(have d1:zK (Row wr g.heap.size g.heap.size cols (nz ((R++[l]).getD R.length []))):=by show Row _ _ _ _ _;rw[cz];exact Q.o);have cq:R.length<256:=U0;clear Q;go_wp2_with (at_builtin;refine wpList_append_own_at _ rfl (.tmp 82) (.tmp 84) 25 rfl w3.heap.size 22 fc _ 1 24 underlying25 dv.o cj.o cm.o cn.o rfl dc (zL VO R.length co) R.length ((List.range R.length).map (hdr (R++[l]) bs)) rfl bz.o (zA wr.heap.size 0) 1 1 [zS g.heap.size cols cols] rfl rfl ?c1 ?c2 ?c3 ?c4 ?c5 ?_);(try case c1=>exact World.news_of_block (cs:=#[zS g.heap.size cols cols]) (t:=22) (fr:=(0,0)) (heap_alloc_new wr _));case c2=>first|rfl|(intro u hu;simp at hu;subst hu;rfl)
               case c3=>unfold maxLen;omega
               case c4=>omega
               case c5=>first|omega|(simp;omega)|assumption
               intro v' w7 T a4 _ ct;have d4:zK (LGrid w7 w3.heap.size v' (R++[l]) (bs++[(g.heap.size,cols)]) (R.length+1)):=bv.o.step U2 dg L.o d1.o (by rw[cz,a7];exact T) a4 (by simpa using ct);have M:zK (zB w3 w7):=(H.o.alloc U0 _).grown a4 so (fun j hj=>(N.o.out.lt j hj).1);clear T a4 ct bz;go_wp2;go_roundw;case rel=>exact⟨t+1,R++[l],bs++[(g.heap.size,cols)],U0,U3,by rw[List.length_append];exact d4.o,by rw[List.length_append];simp;omega,d2.o,by rw[bj.o,az.o,ah.o,show i=E by omega],M.o⟩
               case measure=>simp[intOf];omega
        . (obtain rfl:t=cols:=by omega);have cq:R.length<=256:=U0;have bt:zK (zR g VO (nzs R)):=N.o.up.rowsAt;have aq:zK (Grid q R.length t R):=⟨rfl,a0.o⟩;have a2:=zH (a1.o.grow B.o);have bh:=zH (Z.o R VO co g a2.o.below aq.o bt.o cq);(have b8:zK (canonM O R t=KM):=by show _=_;rw[az.o,ds.o];exact dy.o);have du:=zH (aa.o R aq.o);obtain⟨fk,fm⟩:=X.o R;have a5:(canonM O R t).length<=256:=U0;(have dq:zK ((elGo O R t).piv.length=(canonM O R t).length):=by show _=_;omega);have ac:=zH a2.o.range;clear bt N aq Z aa X a1;generalize (elGo O R t).piv=fh at *;generalize canonM O R t=d6 at *;go_wp2_with (refine wpList_load_mid rfl 24 (.tmp 3) rfl w.heap.size 0 rfl (C5 p m A n cA) _ ac.o underlying24 rfl fieldSize ?_);go_fit bh.o;rintro e w8 ⟨⟨A9,ck9,VA9,c9,rfl,hra9,_⟩,hb8⟩;have d5:=zH (a2.o.grow hb8);have b7:=zH hra9.rowsAt;clear hb8 hra9 bh;go_wp2;go_ret;exact⟨⟨A9,d6,ck9,by rw[<- dq.o];rfl,b7.o,du.o,a5,b8.o⟩,d5.o.below⟩
end Go.Proofs.YtflejelbdlelpaaGreat
