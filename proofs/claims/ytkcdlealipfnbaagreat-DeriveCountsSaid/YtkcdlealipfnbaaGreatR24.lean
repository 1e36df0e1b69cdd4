/- Parts of the proof. -/
import Derived.Test.YtkcdlealipfnbaaGreatR22
import Derived.Test.YtkcdlealipfnbaaGreatR19
set_option maxRecDepth 100000
set_option maxHeartbeats 8000000
namespace Go.Proofs.YtkcdlealipfnbaaGreat
open Go.RowKit Pln Go.Proofs.Tryz
theorem LGrid.wide{w:Wo}{B:Nat}{v:Value}{rows:LL}{c:List (Nat × Nat)}(h:LGrid w B v rows c rows.length)(x:LN):LGrid w B v (rows++[x]) c rows.length:=by
 have e:∀i,i<rows.length->(rows++[x]).getD i []=rows.getD i []:=fun i hi=>getD_snoc_lt hi;refine⟨h.len,U2,?_,fun i hi=>by rw[e i hi];exact h.row i hi,h.apart⟩;have b:(List.range rows.length).map (hdr (rows++[x]) c)=(List.range rows.length).map (hdr rows c):=List.map_congr_left fun i hi=>by unfold hdr;rw[e i (List.mem_range.1 hi)]
 rw[b];exact h.out
def RelN1(w1:Wo)(cols:Nat)(v10:Value)(wr:Wo):Prop:=
 ∃(k:Nat)(zs:LI),k<=cols/\v10=Y k/\Row wr w1.heap.size w1.heap.size cols zs/\zs.length=cols/\zB w1 wr
def RelN2(w1:Wo)(cols np:Nat)(v11:Value)(wr:Wo):Prop:=
 ∃(k:Nat)(zs:LI),k<=np/\v11=Y k/\Row wr w1.heap.size w1.heap.size cols zs/\zs.length=cols/\zB w1 wr
def RowsOk(q cols:Nat)(R:LL):Prop:=∀r∈R,r.length=cols/\∀x∈r,x<q
def RelN3(w3:Wo)(q cols:Nat)(v12 v13:Value)(wr:Wo):Prop:=
 ∃(t:Nat)(R:LL)(bs:List (Nat × Nat)),t<=cols/\v13=Y t/\LGrid wr w3.heap.size v12 R bs R.length/\R.length<=t/\RowsOk q cols R/\zB w3 wr
def RelN4(w4:Wo)(q cols np:Nat)(v15:Value)(wr:Wo):Prop:=
 ∃(i:Nat)(l:LN),i<=np/\v15=Y i/\Row wr w4.heap.size w4.heap.size cols (nz l)/\l.length=cols/\(∀x∈l,x<q)/\zB w4 wr
def NSc(w:Wo)(cs:List Value)(bp op br or' bx ox i t cols ci pv x:Nat)(W:Wo):Prop:=
 BX w cs 29 W/\W.cell? (zA bp (op+i))=some (Y pv)/\W.cell? (zA br (or'+i))=some (zL (some (zA bx ox)) cols ci)/\W.cell? (zA bx (ox+t))=some (Y x)
theorem NSc.keep{w:Wo}{cs:List Value}{d j f b g k i t cols m pv x:Nat}{W l:Wo}(h:NSc w cs d j f b g k i t cols m pv x W)(c:zB W l):NSc w cs d j f b g k i t cols m pv x l:=
 ⟨h.1.grow c,(c.cell (p:=(zA d (j+i))) (World.block_lt_of_cell? W _ h.2.1)).trans h.2.1,(c.cell (p:=(zA f (b+i))) (World.block_lt_of_cell? W _ h.2.2.1)).trans h.2.2.1,(c.cell (p:=(zA g (k+t))) (World.block_lt_of_cell? W _ h.2.2.2)).trans h.2.2.2⟩
def NullPost(w:Wo)(q cols:Nat)(e:Ending)(w':Wo):Prop:=
 (∃(A':OA)(R:LL)(ck:Nat),e=.returned (zL A' R.length ck)/\zR w' A' (nzs R)/\Grid q R.length cols R/\R.length<=256)/\zB w w'
theorem rnull_c(p m:Nat)(md:LN)(A:OA)(n cA:Nat)(rows:LL)(A2:OA)(c2 cols:Nat)(w:Wo)(hR:RFld p m md A n w.heap.size w)(hf:∃ l,FT p m md l)(d0:Grid (p ^ m) rows.length cols rows)(hA:zR w A2 (nzs rows))(h1:1<=cols)(hc:cols<=256)(hn:rows.length<=256):
 zC 93 #[C6 p m A n cA,zL A2 rows.length c2,Y cols] w (NullPost w (p^m) cols):=by
 have HX:=zH (bx_new w (C7 p m A n cA) 29);have HE:=zH (qeI hR hf);have dv:1<p^m:=by have h1:=hR.small.p1;have h2:=hR.small.m1;exact Nat.one_lt_pow U0 U0
 have T:=zH<|fun R A2 c2 W Q hg hra hl=>
  rcanon_c p m md A n cA R A2 c2 cols W ((hR.keep Q).more Q.size) hf hg hra h1 hc hl
 have ad:zK (∀(x:Nat)(W:Wo),x<p^m->zC 150 #[C6 p m A n cA,Y x] W fun e w'=>e=.returned (Y (((refOps p m md).neg x:Nat):Int))/\zB W w'):=fun x W hx=>rneg_c p m A n cA x W hR.small hx;have U:zK (∀R:LL,Grid (p^m) R.length cols R->Grid (p^m) (canonM (refOps p m md) R cols).length cols (canonM (refOps p m md) R cols)):=fun R hg=>by rw[canonM_len];exact canon_grid HE.o hg
 have S:zK (∀R:LL,(canonM (refOps p m md) R cols).length=(elGo (refOps p m md) R cols).piv.length/\(elGo (refOps p m md) R cols).piv.length<=R.length):=fun R=>⟨canonM_len _ _ _,(elGo_piv (O:=refOps p m md) R cols).2⟩;have bf:zK (∀i,i<(elGo (refOps p m md) rows cols).piv.length->(elGo (refOps p m md) rows cols).piv.getD i 0<cols):=fun i hi=>by
  have:∀(l:LN)(hj:i<l.length),l.getD i 0=l[i]:=fun l hj=>by simp[List.getD,hj]
  rw[this _ hi];exact elGo_piv_lt _ _ _ _ (List.getElem_mem _)
 obtain⟨i0,hi,cf,cg,cj⟩:=qaF infoInt;obtain⟨dh,b7,ae,af,ag⟩:=qaF infoInts;have HI:=zH hi;have bu:=zH cf;have bw:=zH cg;have cw:=zH b7;have bv:=zH ae;have bz:=zH af;have b0:=zH ag;have a1:=zH (show i0.bytes*cols<=281474976710656 by rw[cj];omega);have a2:=zH (show cols<=maxLen by unfold maxLen;omega);have aj:=zH d0;have HA:=zH hA;clear hi cf cg cj b7 ae af ag hR hf d0 hA;generalize refOps p m md=O at *;generalize p^m=q at *;go_enter func93,ntmps93;go_upto_region 1 with fail;generalize w.alloc (C3 p m A n cA)=W0 at *;have X:=zH HX.o.range;have a5:=zH (T.o rows A2 c2 W0 HX.o.below aj.o ((HA.o.keep HX.o.below).more HX.o.below.size) hn);obtain⟨b3,dt⟩:=S.o rows;have cn:=zH (U.o rows aj.o);clear HA aj;generalize (elGo O rows cols).piv=ac at *;generalize canonM O rows cols=cr at *;go_wp2_with (refine wpList_load_mid rfl 29 (.tmp 3) rfl w.heap.size 0 rfl (C7 p m A n cA) _ X.o underlying29 rfl fieldSize ?_);go_fit a5.o;rintro e w1 ⟨⟨A',ck,VA,c3,rfl,hra,hia⟩,hb1⟩;have bt:=zH (HX.o.grow hb1);have bi:=zH hra.rowsAt;have ak:=zH hia;clear hb1 hra hia a5 HX X;clear W0;have du:ac.length<=256:=U0;generalize b9:ac.length=E at *;go_wp2_with (refine wpList_make_full w1 rfl (.tmp 23) (.tmp 23) 23 rfl w1.heap.size 3 i0 (Y 0) 1 underlying23 HI.o bu.o bw.o .i64 .i64 cols cols cols rfl rfl rfl rfl a1.o a2.o zn ?_;intro w2 c v);have bn:zK (RelN1 w1 cols (Y ((0:Nat):Int)) w2):=⟨0,nz (List.replicate cols 0),Nat.zero_le _,rfl,by have:=Row.of_make c;exact this,by rw[qaA];simp,qaL v⟩;clear c v;go_wp2;go_loopw [10] (fun v10 wr=>RelN1 w1 cols v10 wr) (fun v10 _=>cols-(intOf v10).toNat);case atStart=>exact bn.o
 case round =>
  obtain⟨k,zs,hk,rfl,b,P,D⟩:=hrel;have K:=zH b;have s:=zH D;clear b D bn;by_cases ab:k<cols
  . (have k0 : (0 : Int)<=(k : Int):=by omega);have k1:(k:Int)<(cols:Int):=U0;have az:IntKind.i64.wrap ((k:Int)+1)=(k:Int)+1:=IntWalk.i64_in _ U0;have f0:=K.o.frozen k;have y0:=K.o.cell (j:=k) U0;have al:=zH (K.o.set k (-1));have ah:=zH (s.o.setCell (p:=(zA w1.heap.size k)) zn (Y (-1)));go_wp2;go_roundw;case rel=>exact⟨k+1,zs.set k (-1),U0,U3,al.o,by rw[List.length_set];exact P,ah.o⟩
    case measure=>simp[intOf];omega
  . (have k1 : ¬ (k : Int) < (cols : Int) := by omega);have bo:zK (RelN2 w1 cols E (Y ((0:Nat):Int)) wr):=⟨0,zs,Nat.zero_le _,rfl,K.o,P,s.o⟩;clear K s P;obtain rfl:cols=k:=U0;clear hk k1 ab;clear zs;obtain ⟨dz,rfl⟩:∃ w',w'=wr:=⟨_,rfl⟩;go_wp2;go_loopw [11] (fun v11 wr=>RelN2 w1 cols E v11 wr) (fun v11 _=>E-(intOf v11).toNat);case atStart=>exact bo.o
    case round =>
     obtain⟨k,zs,hk,rfl,b,P,D⟩:=hrel;have K:=zH b;have s:=zH D;clear b D bo;by_cases ab:k<E
     . obtain⟨bp,op,rfl,da,M⟩:=(ak.o.keep s.o).at_ (k:=k) (by rw[qaA,b9];exact ab);rw[qaC] at M;have dg:=bf.o k ab;generalize ac.getD k 0=f at *;have k0:(0:Int)<=(k:Int):=U0;have k1:(k:Int)<(E:Int):=U0;have p0:(0:Int)<=(f:Int):=U0;have p1:(f:Int)<(cols:Int):=U0;have az:IntKind.i64.wrap ((k:Int)+1)=(k:Int)+1:=IntWalk.i64_in _ U0;have f0:=K.o.frozen f;have y0:=K.o.cell (j:=f) U0;have al:=zH (K.o.set f (k:Int));have ah:=zH (s.o.setCell (p:=(zA w1.heap.size f)) zn (Y (k:Int)));go_wp2;go_roundw;case rel=>exact⟨k+1,zs.set f (k:Int),U0,U3,al.o,by rw[List.length_set];exact P,ah.o⟩
       case measure=>simp[intOf];omega
     . (have k1 : ¬ (k : Int) < (E : Int) := by omega);obtain ⟨w3,rfl⟩:∃ w',w'=wr:=⟨_,rfl⟩;have ap:=zH (bt.o.grow s.o);have bj:=zH ((bi.o.keep s.o).more s.o.size);have a8:=zH ((ak.o.keep s.o).more s.o.size);have db:=K.o.lt.2;have a9:zK (RelN3 w3 q cols (zL none 0 0) (Y ((0:Nat):Int)) w3):=⟨0,[],[],U0,rfl,⟨rfl,Nat.zero_le _,World.ownsRow_nil _ _ _ _,fun i hi=>by simp at hi,fun i hi=>by simp at hi⟩,Nat.zero_le _,fun r hr=>by simp at hr,Below.refl _ _⟩;clear bt bi ak s;go_wp2_with fail;generalize w1.heap.size=g1 at *;go_loopw [12,13] (fun v12 v13 wr=>RelN3 w3 q cols v12 v13 wr) (fun _ v13 _=>cols-(intOf v13).toNat);case atStart=>exact a9.o
       case round =>
        obtain⟨t,R,bs,ht,rfl,aw,dw,cd,D⟩:=hrel;obtain⟨VO,co,rfl,_⟩:=own_slice' aw.out;have J:=zH aw;have s:=zH D;have ao:=zH cd;have ce:=D.size;clear aw D cd a9;obtain⟨g,rfl⟩:∃w',w'=wr:=⟨_,rfl⟩;by_cases B:t<cols
        . (have t0 : (0 : Int) <= (t : Int) := by omega);have t1:(t:Int)<(cols:Int):=U0;have az:IntKind.i64.wrap ((t:Int)+1)=(t:Int)+1:=IntWalk.i64_in _ U0;have y0:=(s.o.cell (p:=(zA g1 t)) db).trans (K.o.cell U0);generalize zs.getD t 0=z at *;by_cases hz:0<=z
          . go_wp2;go_roundw;case rel=>exact⟨t+1,R,bs,U0,U3,J.o,U0,ao.o,s.o⟩
            case measure=>simp[intOf];omega
          . go_upto_region 16 with fail;go_wp2_with (refine wpList_make_full g rfl (.tmp 56) (.tmp 56) 23 rfl g.heap.size 3 i0 (Y 0) 1 underlying23 HI.o bu.o bw.o .i64 .i64 cols cols cols rfl rfl rfl rfl a1.o a2.o zn ?_;intro w5 c v;have r0:w5.cell? (zA g.heap.size t)=some (Y 0):=(by have h:=(Row.of_make c).cell (j:=t) (by rw [qaA,List.length_replicate];exact B);rw [qaC,show (List.replicate cols 0).getD t 0=0 from by simp [List.getD,B]] at h;exact h);have rf:=(Row.of_make c).frozen t);(have bg:zK (Row w5 g.heap.size g.heap.size cols (nz (List.replicate cols 0))):=by have:=Row.of_make c;exact this);(have a3:=zH<|qaL v);have a7:zK (RelN4 g q cols E (Y ((0:Nat):Int)) (w5.setCell (zA g.heap.size t) (Y 1))):=by
             refine⟨0,(List.replicate cols 0).set t 1,U0,rfl,?_,U2,?_,a3.o.setCell (p:=(zA g.heap.size t)) zn _⟩
             . have:=bg.o.set t 1;rw[show(1:Int)=((1:Nat):Int) from rfl,qbC] at this;exact this
             . intro x hx;rcases List.mem_or_eq_of_mem_set hx with h|h
               . rw[List.mem_replicate] at h;omega
               . omega
            clear c v bg a3;generalize w5.setCell (zA g.heap.size t) (Y 1)=W6 at *;clear r0 rf y0;go_loopw [15] (fun v15 wr=>RelN4 g q cols E v15 wr) (fun v15 _=>E-(intOf v15).toNat);case atStart=>exact a7.o
            case round =>
             obtain⟨i,l,hi,rfl,b,ax,b8,D⟩:=hrel;have L:=zH b;have H:=zH D;have bb:=zH b8;have dm:=D.size;clear b D b8 a7;have C:=zH (s.o.trans (H.o.mono ce));by_cases aa:i<E
             . obtain ⟨bp,op,rfl,da,M⟩ := (a8.o.keep C.o).at_ (k := i) (by rw [qaA,b9];exact aa);rw [qaC] at M;obtain ⟨br,cl,Ai,ci,e,dp,Z,ay⟩:=(bj.o.keep C.o).at_ (i:=i) (by rw [nzs_len,b3];exact aa);subst e;rw [nzs_getD] at Z ay;have hg:=cn.o.row (i:=i) (by rw [b3];exact aa);rw [qaA,hg.1] at Z;obtain ⟨bx,ox,rfl,dq,ar⟩:=ay.at_ (k:=t) (by rw [qaA,hg.1];exact B);rw [qaC] at ar;(have a0:(cr.getD i []).getD t 0<q:=by (have:∀ (l:LN)(hj:t<l.length),l.getD t 0=l[t]:=fun l hj=>by simp [List.getD,hj]);rw [this _ (by rw [hg.1];exact B)];exact hg.2 _ (List.getElem_mem _));have dg:=bf.o i aa;have de:=(HE.o.neg _ a0).2;(have bd:=zH<|fun W=>ad.o _ W a0);have dx:(0:Int)<=(i:Int):=U0;have di:(i:Int)<(E:Int):=U0;have dy:(i:Int)<(cr.length:Int):=U0;clear ay hg a0;generalize O.neg ((cr.getD i []).getD t 0)=y at *;generalize (cr.getD i []).getD t 0=x at *;generalize ac.getD i 0=f at *;have p0:(0:Int)<=(f:Int):=U0;have p1:(f:Int)<(cols:Int):=U0;have az:IntKind.i64.wrap ((i:Int)+1)=(i:Int)+1:=IntWalk.i64_in _ U0;have HS:zK (NSc w (C7 p m A n cA) bp op br cl bx ox i t cols ci f x wr.drew):=⟨(ap.o.grow C.o).grow zV.drew,M,Z,ar⟩;have an:=zH (L.o.below (Below.refl _ wr).drew L.o.lt.2);have I:=zH (H.o.drew);clear L H C ad HE T U S M Z ar;go_upto_region 21 with fail;refine qaS 14 14 (NSc w (C7 p m A n cA) bp op br cl bx ox i t cols ci f x) [(1,0),(1,1),(1,2),(1,3),(0,4),(0,5),(1,6),(1,7),(1,8),(0,9),(1,10),(1,11),(0,12),(2,13)] default U1 U1 (fun _ _ d _ _ h=>by cases d <;> exact h) HS.o ?_;generalize wr.drew=Wd at *;simp only [List.map_cons,List.map_nil,List.getD_cons_zero,List.getD_cons_succ]
               iterate 4
                apply qaM rfl
                . intro W
                  go_simp
                  rfl
                go_simp
               apply qbF rfl
               . intro W Q;have z0:=Q.2.1;go_simp;rfl
               go_simp;refine qaT rfl 29 (.tmp 3) rfl w.heap.size 0 rfl (C7 p m A n cA) _ (fun W Q=>Q.1.range) underlying29 rfl fieldSize ?_;go_simp
               iterate 3
                apply qaM rfl
                . intro W
                  go_simp
                  rfl
                go_simp
               apply qbF rfl
               . intro W Q;have z0:=Q.2.2.1;go_simp;rfl
               go_simp
               iterate 2
                apply qaM rfl
                . intro W
                  go_simp
                  rfl
                go_simp
               apply qbF rfl
               . intro W Q;have z0:=Q.2.2.2;go_simp;rfl
               go_simp;apply qbE rfl
               . go_simp;exact⟨rfl,rfl⟩
               (with_reducible refine(bd.o Wd).mono ?_);rintro e w7 ⟨rfl,hb7⟩;have bq:=zH (HS.o.keep hb7);have V:=zH (an.o.below hb7 an.o.lt.2);have a4:=zH (I.o.trans (hb7.mono I.o.size));refine⟨_,rfl,bq.o,?_⟩;go_simp;refine qbH ?_;show wpList _ _ _ _ _ _;go_simp;have f0:=V.o.frozen f;have y0:=V.o.cell (j:=f) (by rw[qaA];omega);have bh:=zH (V.o.set f (y:Int));rw[qbC] at bh;have cm:=zH (a4.o.setCell (p:=(zA g.heap.size f)) zn (Y (y:Int)));have cx:zK (∀z∈l.set f y,z<q):=fun z hz=>(List.mem_or_eq_of_mem_set hz).elim (bb.o z) (fun h=>h ▸ de);clear hb7 HS an I bd V a4 bq;go_wp2;go_roundw;case rel=>exact⟨i+1,l.set f y,U0,U3,bh.o,by rw[List.length_set];exact ax,cx.o,cm.o⟩
               case measure=>simp[intOf];omega
             . (have di : ¬ (i : Int) < (E : Int) := by omega);have cz:zK (RowsOk q cols (R++[l])):=fun r hr=>by
                rcases List.mem_append.1 hr with h|h
                . exact ao.o r h
                . rw[List.mem_singleton] at h;subst h;exact⟨ax,bb.o⟩
               have b6:=getD_snoc_eq R l [];have bc:=zH (J.o.wide l);(have be:zK ((wr.alloc (.cells #[zS g.heap.size cols cols] 23)).ownsRow w3.heap.size 23 1 (zL VO R.length co) R.length ((List.range R.length).map (hdr (R++[l]) bs))):=by have dd:=(bc.o.grow H.o).out;exact World.ownsRow.alloc dd _);have dj:=C.o.size;(have cy:zK (Row wr g.heap.size g.heap.size cols (nz ((R++[l]).getD R.length []))):=by show Row _ _ _ _ _;rw[b6];exact L.o);have b1:R.length<256:=U0;clear L;go_wp2_with (at_builtin;refine wpList_append_own_at _ rfl (.tmp 82) (.tmp 84) 30 rfl w3.heap.size 23 dh _ 1 24 underlying30 cw.o bv.o bz.o b0.o rfl dc (zL VO R.length co) R.length ((List.range R.length).map (hdr (R++[l]) bs)) rfl be.o (zA wr.heap.size 0) 1 1 [zS g.heap.size cols cols] rfl rfl ?c1 ?c2 ?c3 ?c4 ?c5 ?_);(try case c1=>exact World.news_of_block (cs:=#[zS g.heap.size cols cols]) (t:=23) (fr:=(0,0)) (heap_alloc_new wr _));case c2=>first|rfl|(intro u hu;simp at hu;subst hu;rfl)
               case c3=>unfold maxLen;omega
               case c4=>omega
               case c5=>first|omega|(simp;omega)|assumption
               intro v' w7 N au _ b2;(have c6:=zH<|bc.o.step U2 ce H.o cy.o (by rw[b6,ax];exact N) au (by simpa using b2));(have I:=zH<|(C.o.alloc U0 _).grown au so (fun j hj=>(J.o.out.lt j hj).1));clear N au b2 be;go_wp2;go_roundw;case rel=>exact⟨t+1,R++[l],bs++[(g.heap.size,cols)],U0,U3,by rw[List.length_append];exact c6.o,by rw[List.length_append];simp;omega,cz.o,I.o⟩
               case measure=>simp[intOf];omega
        . (obtain rfl:t=cols:=by omega);have b1:R.length<=256:=U0;(have ba:=zH<|J.o.up.rowsAt);have ai:zK (Grid q R.length t R):=⟨rfl,ao.o⟩;have aq:=zH (ap.o.grow s.o);have a6:=zH (T.o R VO co g aq.o.below ai.o ba.o b1);have ct:=zH (U.o R ai.o);obtain⟨dr,ds⟩:=S.o R;have av:(canonM O R t).length<=256:=U0;(have cq:zK ((elGo O R t).piv.length=(canonM O R t).length):=by show _=_;omega);have X:=zH aq.o.range;clear ba J ai T U S ap;generalize (elGo O R t).piv=dn at *;generalize canonM O R t=c8 at *;go_wp2_with (refine wpList_load_mid rfl 29 (.tmp 3) rfl w.heap.size 0 rfl (C7 p m A n cA) _ X.o underlying29 rfl fieldSize ?_);go_fit a6.o;rintro e w8 ⟨⟨A9,ck9,VA9,c9,rfl,hra9,_⟩,hb8⟩;have c7:=zH (aq.o.grow hb8);have bm:=zH hra9.rowsAt;clear hb8 hra9 a6;go_wp2;go_ret;exact⟨⟨A9,c8,ck9,by rw[<- cq.o];rfl,bm.o,ct.o,av⟩,c7.o.below⟩
end Go.Proofs.YtkcdlealipfnbaaGreat
