/- Parts of the proof. -/
import Derived.Test.YtocbdafcolbfeaaGreatR19
set_option maxRecDepth 100000
set_option maxHeartbeats 8000000
namespace Go.Proofs.YtocbdafcolbfeaaGreat
open Go.RowKit Pln Tryz
def CutE(w3:Wo)(O:Ops)(q m1:Nat)(root:Nat->Prop)(v10:Value)(wx:Wo):Prop:=
 ∃(r:Nat)(VA:OA)(ck:Nat),v10=zL VA m1 ck/\zI wx VA (nz (pwL O r m1))/\r<q/\root r/\zB w3 wx
def RelPx(wA:Wo)(Bp:Nat)(O:Ops)(r m1:Nat)(v10 v13:Value)(wr:Wo):Prop:=
 ∃i:Nat,1<=i/\i<=m1/\v13=Y i/\Num wr Bp v10 (pwL O r i)/\wA.grownBy wr (some Bp)/\∀b,v10.ownBlock=some b->b=Bp\/wA.heap.size<=b
theorem below_of_grown_at{w w':Wo}{b:Nat}(h:w.grownBy w' (some b))(c:b<=w.heap.size):Below b w w':=
 ⟨h.os,h.tape,h.output,h.size,fun k hk=>h.block k U0 (fun e=>by injection e with e;omega)⟩
theorem embed_c(p1 m1:Int)(f5:LI)(A1:OA)(c1 gb p m:Nat)(mod:LI)(md l:LN)(w:Wo)(f6:zI w A1 f5)(f8:f5.length<=9223372036854775807)(hF:FT p m md l)(hG:GFM w w.heap.size gb p m mod l (logL l (p ^ m)))(f7:mod.length<=1000000):
 zC 160 #[C7 p1 m1 A1 f5.length c1,zP gb] w (EmbPost w p1 m1 f5 p (opsT p m l) (p^m)):=by
 have fx:=hF.small.q;have fc:=hF.small.m2;have ft:=hG.1;have HF:=zH hF;have HG:=zH hG;have HA:=zH f6;have HX:=zH (bx_new w (C5 p1 m1 A1 f5.length c1) 29);clear hF hG f6;go_enter func160,ntmps160;go_upto_region 1 with fail;generalize w.alloc (C3 p1 m1 A1 f5.length c1)=W0 at *;have ct:=zH HX.o.range;have HN:=zH (fnew_full p1 m1 f5 A1 c1 W0 ((HA.o.keep HX.o.below).more HX.o.below.size) f8);go_wp2_with (refine wpList_load_mid rfl 29 (.tmp 2) rfl w.heap.size 0 rfl (C5 p1 m1 A1 f5.length c1) _ ct.o underlying29 rfl fieldSize ?_);go_fit HN.o;rintro e w1 ⟨hcase,hb1⟩;have aq:=zH (HX.o.grow hb1);clear hb1 HX ct HN;rcases hcase with⟨T,rfl⟩|⟨T,gs,rfl,_,dg⟩
 . go_wp2;go_ret2;exact⟨⟨none,0,0,1,rfl,fun h=>by cases h⟩,aq.o.below⟩
 have hs:=qeU (by unfold fieldOK at T;rw[Bool.and_eq_true] at T;exact T.1:shapeM p1 m1 f5=true);have HS:=zH hs;have bw:=zH T;have cn:=zH dg.gf;have cl:=zH (field_ft T);have fw:=hs.p0;have fb:=hs.m0;have ds:=hs.small.m1;have fq:=hs.small.m2;have ce:=hs.small.q;have cr:=zH (prime_c gb w.heap.size p m mod l _ w1 (HG.o.keep aq.o.below) aq.o.below.size f7);clear dg T hs;go_wp2_with fail;go_fit cr.o;rintro e w2 ⟨rfl,hb2⟩;have R:=zH (aq.o.grow hb2);have bd:=zH ((cn.o.keep hb2).more hb2.size);clear hb2 aq cr cn;have y0:w2.cell? (zA w.heap.size 0)=some (Y p1):=R.o.cell rfl;by_cases a2:p1=(p:Int);rotate_left
 . have dm:=bne_iff_ne.2 a2;clear a2;go_wp2;go_ret2;exact⟨⟨none,0,0,10,rfl,fun h=>by cases h⟩,R.o.below⟩
 have dm:(p1 != (p:Int))=false:=by rw[a2];simp
 have a6:=zH a2;have y1:w2.cell? (zA w.heap.size 1)=some (Y m1):=R.o.cell rfl;have HD:=zH (qfG gb w.heap.size p m m1 mod l _ w2 (HG.o.keep R.o.below) R.o.below.size f7 fc);clear a2;go_wp2_with fail;go_fit HD.o;rintro e s ⟨rfl,hb3⟩;have B:=zH (R.o.grow hb3);have aj:=zH ((bd.o.keep hb3).more hb3.size);clear hb3 R HD bd y0 y1;cases hdg:degB m m1
 . go_wp2;go_ret2;exact⟨⟨none,0,0,10,rfl,fun h=>by cases h⟩,B.o.below⟩
 clear hdg dm;have c:=B.o.2.2;have y1:s.cell? (zA w.heap.size 1)=some (Y m1):=B.o.cell rfl;go_upto_region 8 with fail;have b2:zB s (s.alloc (.cells #[Y 1] 3)):=zV.alloc zn _;have bu:zK ((s.alloc (.cells #[Y 1] 3)).heap[s.heap.size]?=some (.cells #[zN 1] 3 (0,0))):=heap_alloc_new _ _;have bv:zK (Num (s.alloc (.cells #[Y 1] 3)) s.heap.size (zS s.heap.size 1 1) [1]):=World.ownsRow_lit (size:=1) s #[Y 1] 1 zn U4 rfl;have ah:=zH b2;have dr:s.heap.size<(s.alloc (.cells #[Y 1] 3)).heap.size:=U2;clear y1 b2;generalize s.alloc (.cells #[Y 1] 3)=w4 at *;have y1:=(ah.o.cell (p:=(zA w.heap.size 1)) c).trans (B.o.cell rfl);obtain ⟨I,a3⟩:∃ I:Nat->Prop,I=fun r=>m1=1\/evN (opsT p m l) (mdOf m1 f5++[1]) r=0:=⟨_,rfl⟩;have a8:=zH a3;clear a3;go_upto_if 43 with fail;go_cut [10] (fun v10 wx=>CutE s (opsT p m l) (p ^ m) m1.toNat I v10 wx);case first =>
  by_cases ac:m1=1
  . (have dj:¬1<m1:=by omega);(have HC:zK (CutE s (opsT p m l) (p^m) m1.toNat I (zS s.heap.size 1 1) w4):=by refine⟨0,some (zA s.heap.size 0),1,by rw[ac];rfl,?_,Nat.pow_pos (by have:=HF.o.small.p1;omega),by rw[a8.o];exact .inl ac,ah.o⟩;rw[ac];exact bv.o.up.ints);clear ac;go_wp2;go_meet;exact HC.o
  . (have dj : 1 < m1 := by omega);have bm:=HS.o.len ac;have bb:=HS.o.nat ac;have bn:=HS.o.lt;(have bj:(mdOf m1 f5).length=f5.length:=by rw [<- bb,qaA];simp [bb]);(have b9:p1.toNat=p:=by have:=a6.o;omega);obtain ⟨i0,hi,M,N,Q⟩:=qaF infoInt;have au:=B.o.below.trans (ah.o.mono (Nat.le_of_lt c));have b0:=(HA.o.keep au).more au.size;obtain ⟨ba,oa,rfl,b2,fa⟩:=b0 U0;have ax:zB w4 (w4.alloc (.cells #[] 3)):=zV.alloc zn _;obtain ⟨g6,ar,w6,U,C,bi,Z,di⟩:=run_append_lies (P:=prog) (w4.alloc (.cells #[] 3)) 23 23 w4.heap.size 3 i0 _ 1 8 underlying23 hi M N Q rfl dc (zS w4.heap.size 0 0) 0 [] (World.ownsRow_made w4 #[] 0 zn U4 rfl) (zA ba oa) f5.length c1 (f5.map (Value.int .i64)) U2 ((b0.keep ax).news) (by intro u hu;obtain ⟨z,_,rfl⟩:=List.mem_map.1 hu;rfl) U0 U4 U0 U2 _ rfl;have b1:=ax.grown bi ax.size (fun k hk=>by simp [Value.ownBlock] at hk;omega);(have b8:Num w6 w4.heap.size (zS g6 f5.length ar) (mdOf m1 f5):=by unfold Num;rw [bb,bj];simpa using C);have a9:zB w4 (w6.alloc (.cells #[Y 1] 3)):=b1.alloc b1.size _;obtain ⟨v7,w7,V,a0,dd⟩:=app_int (W:=w6.alloc (.cells #[zN 1] 3)) 1 w6.heap.size (World.ownsRow.alloc b8 _) a9.size U0 (heap_alloc_new _ _);have av:=a9.grown dd a9.size (fun k hk=>(World.ownsRow.lt b8 k hk).1);obtain ⟨vl,ae⟩:∃ vl,mdOf m1 f5++[1]=vl:=⟨_,rfl⟩;(have a4:vl.length=f5.length+1:=by rw [<- ae];simp;omega);(have b7:vl.getD (vl.length-1) 0=1:=by rw [a4,<- ae,show f5.length+1-1=(mdOf m1 f5).length by omega];simp [List.getD]);have dv:∀ x∈vl,x<p ^ m:=fun x hx=>by
     have ad:=(Al.fld_of HF.o).q1;have dn:p<=p^m:=Nat.le_self_pow (by have:=HF.o.small.m1;omega) p;rw[<- ae] at hx;rcases List.mem_append.1 hx with hx|hx
     . have:=bn x hx;omega
     . (have:x=1:=by simpa using hx);omega
    rw[ae] at a0;obtain⟨c6,c7,du⟩:=a0.slice;rw[du] at V a0;(have bf:zK (∀r,evN (opsT p m l) vl r=0->I r):=fun r hr=>by rw[a8.o];right;rw[ae];exact hr);have cw:=zH (roots_c gb p m md l vl c6 c7 w7 HF.o (((HG.o.keep (au.trans (av.mono au.size))).gf).more (by have:=au.size;have:=av.size;omega)) dv a0.up.ints U0 U0 U0);rw[Nat.zero_add] at U;have ao:=zH U;have ap:=zH V;have bs:=zH av;have bc:=av.size;have y2:=(ax.cell (p:=(zA w.heap.size 2)) (by show w.heap.size < _;omega)).trans ((ah.o.cell (p:=(zA w.heap.size 2)) c).trans (B.o.cell rfl));have fh:=zH bm;have fj:=zH a4;have fo:2<=f5.length:=U0;clear bm a4 bb bn bj b9 hi M N Q b0 fa ax U C bi Z di b1 b8 a9 V a0 dd av du dv b7 ae bv
    go_upto_region 10 with(first
     |(at_builtin;refine qaP (v1:=zS w4.heap.size 0 0) (v2:=zL (some (zA ba oa)) f5.length c1) (v:=zS g6 f5.length ar) (w':=w6) rfl (.tmp 46) (.tmp 48) 23 rfl rfl rfl ao.o ?_)
     |(at_builtin;refine qaP (v1:=zS g6 f5.length ar) (v2:=zS w6.heap.size 1 1) (v:=zL c6 vl.length c7) (w':=w7) rfl (.tmp 49) (.tmp 50) 23 rfl rfl rfl ap.o ?_))
    go_fit cw.o;rintro e w8 ⟨⟨VR,rs,ckr,rfl,hup,hrs⟩,hb9⟩;(have D:=zH<|ah.o.trans ((bs.o.trans (hb9.mono bc)).mono (Nat.le_of_lt dr)));have f2:=Nat.le_trans bc hb9.size;(have cq:=zH<|((bs.o.trans (hb9.mono bc)).block _ dr).trans bu.o);(have c5:=zH<|hup.lower bc);have cx:=zH hrs;clear hup hrs hb9 cw ao ap bs y2 bu;have fp:(0:Int)<=(rs.length:Int):=U0;by_cases dp:rs.length=0
    . have ff:((rs.length:Int)==0)=true:=beq_iff_eq.2 U0;(have ag:=zH<|B.o.below.trans (D.o.mono (Nat.le_of_lt c)));clear dp;go_wp2;go_ret2;exact⟨⟨none,0,0,10,rfl,fun h=>by cases h⟩,ag.o⟩
    have ff:((rs.length:Int)==0)=false:=beq_false_of_ne U0;have f1:(0:Int)<(rs.length:Int):=U0;obtain⟨br,cf,rfl,fm,fn,da⟩:=c5.o (by rw[qaA];omega);have ay:=da 0 (by rw[qaA];omega);rw[qaC,Nat.add_zero] at ay
    obtain⟨L,dq⟩:=cx.o (rs.getD 0 0) (by
     have:rs.getD 0 0=rs[0]'U0:=by simp[List.getD,show 0<rs.length by omega]
     rw[this]
     exact List.getElem_mem _)
    have an:=zH (bf.o _ dq);have cg:=zH ay;obtain⟨r,hr⟩:∃r,rs.getD 0 0=r:=⟨_,rfl⟩;rw[hr] at cg an L;(have c8:zK (RelPx w8 s.heap.size (opsT p m l) r m1.toNat (zS s.heap.size 1 1) (Y 1) w8):=by refine⟨1,Nat.le_refl _,ds,rfl,?_,⟨rfl,rfl,rfl,Nat.le_refl _,fun _ _ _=>rfl⟩,fun b hb=>.inl (by injection hb with hb;exact hb.symm)⟩;show Num w8 s.heap.size (zS s.heap.size 1 1) [1];exact⟨rfl,.inr ⟨s.heap.size,1,#[Y 1],rfl,Nat.le_refl _,cq.o,by first|decide|(unfold maxLen;omega),by first|decide|(unfold maxLen;omega),by first|decide|simp,rfl⟩⟩);have fz:0<rs.length:=U0;clear hr da ay dq cx c5 dp bf;have ak:zK (∀x y,x<p^m->y<p^m->(opsT p m l).mul x y<p^m):=fun x y hx hy=>mulT_lt HF.o hx hy;(have a7:=zH<|pwN_lt ak.o (Al.fld_of HF.o).q1 L);(have d1:=zH<|(HG.o.keep (B.o.below.trans (D.o.mono (Nat.le_of_lt c)))).gf)
    have be:zK (∀(x:Nat)(W:Wo),x<p^m->Below w.heap.size w8 W->zC 142 (Cf gb x r) W (Quiet (Y (((opsT p m l).mul x r:Nat):Int)) W)):=
     fun x W hx X=>mul_c x r gb p m w.heap.size md l W HF.o (d1.o.keep X) hx L
    have d5:zK (∀k,pwN (opsT p m l) r (k+1)=(opsT p m l).mul (pwN (opsT p m l) r k) r):=fun k=>rfl;have y1:=(D.o.cell (p:=(zA w.heap.size 1)) c).trans (B.o.cell rfl);clear ak aj cl HS bw HA HG;generalize opsT p m l=O at *;generalize fe:p^m=q at *;clear fe;go_wp2;go_loopw [10,13] (fun v10 v13 wr=>RelPx w8 s.heap.size O r m1.toNat v10 v13 wr) (fun _ v13 _=>m1.toNat-(intOf v13).toNat);case atStart=>exact c8.out
    case round =>
     obtain⟨i,fu,fv,rfl,a1,S,K⟩:=hrel;have J:=zH a1;have E:=zH S;have al:=zH K;(have ag:=zH<|below_of_grown_at S (by have:=D.o.size;omega));have f4:=(ag.o.cell (p:=(zA w.heap.size 1)) c).trans y1;have dt:=S.size;obtain⟨VA,ck,rfl⟩:=a1.slice;rw[qcU] at J al ⊢;clear a1 S K c8 y1;by_cases az:i<m1.toNat
     . (have i1 : (i : Int) < m1 := by omega);(have i2:IntKind.i64.wrap ((i:Int)-1)=((i-1:Nat):Int):=by rw [IntWalk.i64_in _ U0];omega);have i3:IntKind.i64.wrap ((i:Int)+1)=(i:Int)+1:=IntWalk.i64_in _ U0;have i4:(0:Int)<=((i-1:Nat):Int):=U0;have i5:((i-1:Nat):Int)<(i:Int):=U0;(have bg:zK (zI wr VA (nz (pwL O r i))):=by have h:=J.o;unfold Num at h;rw [qcU] at h;exact (ints_of_own h (qcU O r i)).ints);obtain ⟨bp,op,rfl,d9,b3⟩:=bg.o.at_ (k:=i-1) (by rw [qaA,qcU];omega);rw [qaC,pwL_at O r i (i-1) U0] at b3;have dw:=a7.o (i-1);(have c4:zK (pwL O r (i+1)=pwL O r i++[O.mul (pwN O r (i-1)) r]):=by show _=_;rw [pwL_succ];obtain ⟨j,rfl⟩:∃ j,i=j+1:=⟨i-1,U0⟩;rw [d5.o j];rfl);generalize pwN O r (i-1)=x at *;have bh:=(World.cell?_of_block (a:=(zA br cf)) (E.o.block br U0 (fun e=>by injection e with e;omega))).trans cg.o;have dz:zK (∀ W,LSt wr W->W.cell? (zA bp (op+(i-1)))=some (Y (x:Int))/\W.cell? (zA br cf)=some (Y (r:Int))):=fun W X=>⟨(Below.cell X (p:=(zA bp (op+(i-1)))) d9).trans b3,(Below.cell X (p:=(zA br cf)) (by show br < _;omega)).trans bh⟩;have cz:zK (LSt wr wr.drew):=zV.drew;have d3:=zH (be.o x wr.drew dw ((ag.o.mono (Nat.le_of_lt c)).drew));clear b3 bh be bg dw;go_upto_region 15 with fail;refine qbM 12 (LSt wr) [(true,0),(true,1),(true,2),(true,3),(true,4),(true,5),(true,6),(true,7),(true,8),(true,9),(false,10),(false,11)] default U1 U1 (fun _ _ d _ _ h=>by cases d <;> exact h) cz.o ?_;generalize wr.drew=W1 at *;simp only [List.map_cons,List.map_nil,List.getD_cons_zero,List.getD_cons_succ]
       iterate 10
        apply qcH rfl
        . intro W X
          obtain⟨z0,z1⟩:=dz.o W X
          go_simp
          rfl
        go_simp
       apply qcE rfl
       . go_simp;exact⟨rfl,rfl⟩
       go_fit d3.o;rintro e w' ⟨rfl,n,rfl⟩;have aa:zK (LSt wr (W1.drewN n)):=qaB cz.o n;refine⟨_,rfl,aa.o,?_⟩;go_simp;generalize W1.drewN n=W2 at *;have ab:zK (LSt wr (W2.alloc (.cells #[Y ((O.mul x r:Nat):Int)] 3))):=Below.alloc aa.o (Below.size aa.o) _;have fs:=Below.size aa.o;have d8:Num (W2.alloc (.cells #[Y ((O.mul x r:Nat):Int)] 3)) s.heap.size (zL (some (zA bp op)) i ck) (pwL O r i):=World.ownsRow.alloc (J.o.grow aa.o) _;obtain⟨i0,hi,M,N,Q⟩:=qaF infoInt;obtain⟨v',w6,bq,C,db,_,Z⟩:=run_append_own_at (P:=prog) (w:=W2.alloc (.cells #[Y ((O.mul x r:Nat):Int)] 3)) s.heap.size 23 23 3 i0 _ 1 8 underlying23 hi M N Q rfl dc (zL (some (zA bp op)) i ck) (pwL O r i).length _ d8 (zA W2.heap.size 0) 1 1 [Y ((O.mul x r:Nat):Int)] rfl (World.news_of_block (cs:=#[Y ((O.mul x r:Nat):Int)]) (t:=3) (fr:=(0,0)) (heap_alloc_new _ _)) (by intro u hu;simp at hu;subst hu;rfl) (by rw[qcU];unfold maxLen;omega) (by rw[qcU];omega) (by have:=D.o.size;simp;omega);have cy:=zH bq;(have d4:zK (Num w6 s.heap.size v' (pwL O r (i+1))):=by have h:=Num.step C;rw[<- c4.o] at h;exact h);have ai:=zH db;(have fi:=zH<|aa.o);have dx:=zH Z;clear hi M N Q bq C db Z;apply mix_step rfl
       . go_simp;exact⟨rfl,rfl⟩
       . exact ab.o
       go_simp;refine qeJ ?_
       go_wp2_with (first
        |(at_builtin;refine qaP (v:=v') (w':=w6) rfl (.tmp 64) (.tmp 75) 23 rfl rfl rfl cy.o ?_))
       have c9:=al.o;have fg:=ab.o.size
       refine⟨⟨i+1,U0,U0,U2,d4.o,⟨ai.o.os.trans (ab.o.os.trans E.o.os),ai.o.tape.trans (ab.o.tape.trans E.o.tape),ai.o.output.trans (ab.o.output.trans E.o.output),Nat.le_trans dt (Nat.le_trans fg ai.o.size),fun k hk hne=>(ai.o.block k U0 (fun e=>by
        rcases c9 k e.symm with rfl|h
        . exact hne rfl
        . omega)).trans ((ab.o.block k U0).trans (E.o.block k hk hne))⟩,?_⟩,by simp[intOf];omega⟩
       intro b hb;rcases dx.o with h|h
       . rw[h] at hb;exact c9 b hb
       . rw[h] at hb;injection hb with hb;right;omega
     . (obtain rfl:i=m1.toNat:=by omega);have i1:¬(m1.toNat:Int)<m1:=U0;(have HC:zK (CutE s O q m1.toNat I (zL VA m1.toNat ck) wr):=by refine⟨r,VA,ck,rfl,?_,L,an.o,D.o.trans ag.o⟩;have h:=J.o;unfold Num at h;rw[qcU] at h;exact(ints_of_own h (qcU O r _)).ints);clear J al E;rw[fb];go_wp2;go_meet;exact HC.o
 case rest =>
  obtain⟨r,VA,ck,rfl,dh,L,cd,aw⟩:=hcut;have b9:p1.toNat=p:=by have:=a6.o;omega
  have dl:0<p:=by have:=HF.o.small.p1;omega
  have bt:=zH ((aj.o.keep aw).more aw.size);have f3:=aw.size;have af:=zH<|B.o.below.trans (aw.mono (Nat.le_of_lt c))
  have co:=zH dh;have cm:=zH<|(HG.o.keep af.o).gf
  have bz:zK (r<p^m/\(m1=1\/evN (opsT p m l) (mdOf m1 f5++[1]) r=0)):=⟨L,by rw[a8.o] at cd;exact cd⟩;have dn:p<=p^m:=Nat.le_self_pow (by have:=HF.o.small.m1;omega) p;have ak:zK (∀x y,x<p^m->y<p^m->(opsT p m l).mul x y<p^m):=fun x y hx hy=>mulT_lt HF.o hx hy;have a7:=zH<|pwN_lt ak.o (Al.fld_of HF.o).q1 L
  obtain⟨H,ad⟩:∃H,p1.toNat^m1.toNat=H:=⟨_,rfl⟩;have d0:=zH<|fun x W hx X=>by have h:=digits_c x gs p1.toNat m1.toNat wc.heap.size _ _ W HS.o.small (bt.o.keep X) X.size (by rw[ad];exact hx);rw[b9] at h;exact h
  have ch:zK (∀(x:Nat)(g:Nat)(W:Wo),zB wc W->zI W (zO g) (nz (digs p m1.toNat x))->zC 138 #[zP gb,zS g m1.toNat m1.toNat,zL VA m1.toNat ck] W (Quiet (Y ((imN (opsT p m l) p m1.toNat r x:Nat):Int)) W)):=fun x g W X hg=>by
   have b6:(digs p m1.toNat x).length=m1.toNat:=qaK ..
   have h:=dot_c gb p m W.heap.size md l (digs p m1.toNat x) (pwL (opsT p m l) r m1.toNat) (zO g) VA m1.toNat ck W HF.o (((cm.o.keep (X.mono af.o.size))).more (Nat.le_trans af.o.size X.size)) (by rw[qcU,b6]) (fun y hy=>by
    have:=qdU (p:=p) dl m1.toNat x y hy
    omega) (fun y hy=>by
    obtain⟨k,_,rfl⟩:=List.mem_map.1 hy
    exact a7.o k) hg ((co.o.keep X).more X.size) (by rw[b6];omega)
   rw[b6] at h;exact h
  have d2:zK (zC 120 #[zP gs] wc fun e w'=>e=.returned (Y (H:Int))/\wc=w'):=by have h:=gorder_c gs wc.heap.size p1.toNat m1.toNat _ _ wc bt.o;rw[ad] at h;exact h
  rw[ad] at ce;obtain⟨f,hf⟩:∃f,imN (opsT p m l) p m1.toNat r=f:=⟨_,rfl⟩
  have cj:zK (∀(w':Wo)(A:OA),zI w' A (nz ((List.range H).map f))->zB w w'->EmbPost w p1 m1 f5 p (opsT p m l) (p^m) (.returned (.tuple #[zL A H H,Y 0])) w'):=fun w' A hA hb=>
   ⟨⟨A,H,H,0,rfl,fun _=>⟨bw.o,a6.o,ad.symm,r,bz.o.1,bz.o.2,by rw[hf];exact hA⟩⟩,hb⟩
  rw[hf] at ch;clear dh L cd aw bt co cm bz ak a7 a8 aj cl HS bw HA HG bv bu dn hf y1 a6 ad B;obtain⟨i0,hi,M,N,Q⟩:=qaF infoInt;have HI:=zH hi;have d6:=zH M;have d7:=zH N;have a5:=zH (show i0.bytes*H<=281474976710656 by rw[Q];omega);have dy:=zH (show H<=maxLen by unfold maxLen;omega);clear hi M N Q;have HQ:=zH ce;generalize EmbPost w p1 m1 f5 p (opsT p m l) (p^m)=fk at *;clear HF;clear ce;go_wp2_with fail;go_fit d2.o;rintro e w' ⟨rfl,rfl⟩;go_wp2_with (refine wpList_make_full wc rfl (.tmp 78) (.tmp 78) 23 rfl wc.heap.size 3 i0 (Y 0) 1 underlying23 HI.o d6.o d7.o .i64 .i64 H H H rfl rfl rfl rfl a5.o dy.o zn ?_;intro w1 K S)
  have HS:zK (RelEm wc f H wc.heap.size wc.heap.size (Y ((0:Nat):Int)) w1):=⟨0,U0,rfl,by
   have:=Row.of_make K
   unfold scK
   simpa using this,qaL S⟩
  clear K S;go_loopw [82] (fun v82 wr=>RelEm wc f H wc.heap.size wc.heap.size v82 wr) (fun v82 _=>H-(intOf v82).toNat);case atStart=>exact HS.o
  case round =>
   obtain⟨k,hk,rfl,bo,hb⟩:=hrel;have HR:=zH bo;have HB:=zH hb;have fy:=HQ.o;clear bo hb HS;by_cases az:k<H
   . have c3:=zH (scK_set f (List.range H) k (by simpa using az));(have de:(List.range H).getD k 0=k:=by simp[List.getD,az]);rw[de] at c3;clear de;go_wp2_with fail;(with_reducible refine(d0.o k wr az HB.o).mono ?_);rintro e w2 ⟨⟨g,rfl,hrow2⟩,hb2⟩;(have a5:=zH<|HB.o.trans (hb2.mono HB.o.size));have ci:=zH (ch.o k g w2 a5.o (hrow2.ints hrow2.lt.2));(have bx:=zH<|HR.o.below hb2 HR.o.lt.2);clear hrow2 hb2;go_wp2_with fail;go_fit ci.o;rintro e s ⟨rfl,n,rfl⟩;have f0:=bx.o.frozen k;have c0:=bx.o.cell (j:=k) (by rw[qaA,scK_len f _ k (by simpa using hk)];simpa using az);go_wp2;go_roundw;case rel=>refine⟨k+1,U0,gn,?_,(qaB a5.o n).setCell (p:=(zA wc.heap.size k)) zn _⟩;rw[<- c3.o,<- qbC];exact Row.set (w:=w2.drewN n) bx.o k _
     case measure=>simp[intOf];omega
   . (obtain rfl:H=k:=by omega);go_wp2_with fail;refine cj.o _ _ ?_ (af.o.trans (HB.o.mono af.o.size));have h:=HR.o;unfold scK at h;rw[List.length_range,Nat.sub_self,List.replicate_zero,List.append_nil,List.take_of_length_le U2] at h;exact Row.ints h (Row.lt h).2
end Go.Proofs.YtocbdafcolbfeaaGreat
