/- Parts of the proof. -/
import Derived.Test.YtflejelbdlelpaaGreatR17
set_option maxRecDepth 100000
set_option maxHeartbeats 8000000
namespace Go.Proofs.YtflejelbdlelpaaGreat
open Go.RowKit Pln Go.Proofs.Tryz
theorem ints_own{w:Wo}{B n k:Nat}{i:OA}{l:LN}(h:w.ownsRow B 3 1 (zL i n k) n ((nz l).map (Value.int .i64)))(m:l.length=n):zI w i (nz l):=fun hz=>by
 rw[qaA] at hz
 obtain⟨d,f,e,g⟩:=own_slice' h
 injection e with e1 e2 e3
 subst e1
 obtain⟨R,rfl⟩:=g U0
 have c:=World.ownsRow.lt h R rfl
 refine⟨R,0,rfl,c.2,fun j hj=>?_⟩
 rw[qaA] at hj
 rw[Nat.zero_add,World.ownsRow.cellAt h j U0]
 have b:j<(nz l).length:=by rw[qaA];exact hj
 simp[List.getD,b]
def LS(w0 W:Wo):Prop:=zB w0 W
theorem SBoxF.bl{w:Wo}{p m:Int}{A:OA}{n c:Nat}{W:Wo}(h:SBoxF w p m A n c W):zB w W:=h.1
theorem qeI{p m:Nat}{md:LN}{A:OA}{n B:Nat}{W:Wo}(h:RFld p m md A n B W)(c:∃l,FT p m md l):OpsEq (p^m) (refOps p m md) (refOps p m md):=by
 obtain⟨l,b⟩:=c;have e:=ops_eq b h.len
 exact⟨fun x y hx hy=>⟨rfl,by rw[<- (e.add x y hx hy).1];exact(e.add x y hx hy).2⟩,fun x y hx hy=>⟨rfl,by rw[<- (e.mul x y hx hy).1];exact(e.mul x y hx hy).2⟩,
  fun x hx=>⟨rfl,by rw[<- (e.neg x hx).1];exact(e.neg x hx).2⟩,fun x hx h0=>⟨rfl,by rw[<- (e.inv x hx h0).1];exact(e.inv x hx h0).2⟩⟩
theorem col_facts2{q:Nat}{O:Ops}(E:OpsEq q O O){n cols c k:Nat}{s:ElS}(o:Grid q n cols s.rows)(j:s.piv.length<n)(l:c<cols)(p:k=findRow s.rows c (s.rows.length-s.piv.length) s.piv.length)(m:k<n):
 Grid q n cols (swapRows s.rows s.piv.length k)/\at2 (swapRows s.rows s.piv.length k) s.piv.length c≠0/\Grid q n cols (normRow O (swapRows s.rows s.piv.length k) s.piv.length c)/\
 (∀i,i<=n->Grid q n cols (clearGo O c s.piv.length (normRow O (swapRows s.rows s.piv.length k) s.piv.length c) i))/\
 elStep O c s=⟨clearGo O c s.piv.length (normRow O (swapRows s.rows s.piv.length k) s.piv.length c) n,s.piv++[c]⟩:=by
 have b:=o.1;have g:=qdC o j m;have d:at2 s.rows k c≠0:=by have:=qcF s.rows c (s.rows.length-s.piv.length) s.piv.length U0;rw[<- p] at this;exact this
 have f:at2 (swapRows s.rows s.piv.length k) s.piv.length c≠0:=by unfold at2 at d ⊢;rw[qfT U0 U0];exact d
 have h:=(qfW E g j l f).2;refine⟨g,f,h,fun i hi=>(qdJ E h l j i hi).2,?_⟩;unfold elStep;rw[if_pos U0,<- p,if_neg U0,b]
def RelRE(w:Wo)(p m:Nat)(A:OA)(n cA R cR:Nat)(O:Ops)(rows:LL)(cols g:Nat)(v9 v10 v11:Value)(wr:Wo):Prop:=
 ∃(cc:Nat)(bs:List (Nat × Nat))(VA:OA)(Vk:Nat),cc+g=cols/\v11=Y (cc:Int)/\v10=Y ((elGo O rows cc).piv.length:Int)/\v9=zL VA (elGo O rows cc).piv.length Vk/\ES w p m A n cA R cR (elGo O rows cc).rows rows.length (zL VA (elGo O rows cc).piv.length Vk) (elGo O rows cc).piv bs wr
def RElPost(w:Wo)(O:Ops)(rows:LL)(cols:Nat)(e:Ending)(w':Wo):Prop:=
 (∃(R cR:Nat)(VA:OA)(ck:Nat)(bs:List (Nat × Nat)),e=.returned (.tuple #[zS R rows.length cR,zL VA (elGo O rows cols).piv.length ck])/\GridAt w' (w.heap.size+1) R cR (elGo O rows cols).rows bs/\zI w' VA (nz (elGo O rows cols).piv))/\zB w w'
def RelK0(w1:Wo)(rows:LL)(c N t:Nat)(v12:Value)(wx:Wo):Prop:=v12=Y ((findRow rows c (N-t) t:Nat):Int)/\wx=w1
def RelES(w:Wo)(p m:Nat)(A:OA)(n cA R cR:Nat)(rows:LL)(N:Nat)(v9:Value)(piv:LN)(vt:Value)(wx:Wo):Prop:=vt=Y (piv.length:Int)/\∃bs,ES w p m A n cA R cR rows N v9 piv bs wx
def RelRC(w:Wo)(p m:Nat)(A:OA)(n cA R cR:Nat)(O:Ops)(c:Nat)(rows2:LL)(N:Nat)(v9:Value)(piv:LN)(v13:Value)(wx:Wo):Prop:=∃(i:Nat)(bs:List (Nat × Nat)),i<=N/\v13=Y (i:Int)/\ES w p m A n cA R cR (clearGo O c piv.length rows2 i) N v9 piv bs wx
theorem reliminate_c(p m:Nat)(md:LN)(A:OA)(n cA:Nat)(rows:LL)(A2:OA)(c2 cols:Nat)(w:Wo)(hR:RFld p m md A n w.heap.size w)(hf:∃ l,FT p m md l)(c9:Grid (p ^ m) rows.length cols rows)(hA:zR w A2 (nzs rows))(h1:1<=cols)(hc:cols<=256)(da:0<rows.length)(hn:rows.length<=256):
 zC 37 #[C4 p m A n cA,zL A2 rows.length c2,Y cols] w (RElPost w (refOps p m md) rows cols):=by
 have HX:=zH (qbK w p m A n cA);have aw:=zH (qeI hR hf);have ay:zK (∀W,zB w W->RFld p m md A n W.heap.size W):=fun W f=>(hR.keep f).more f.size
 have bj:zK (∀W,zB w W->zC 82 #[zL A2 rows.length c2] W fun e w'=>(∃R cR bs,e=.returned (zS R rows.length cR)/\GridAt w' W.heap.size R cR rows bs)/\zB W w'):=fun W f=>
  rcopy_c rows A2 c2 W ((hA.keep f).more f.size) (fun r hr=>by have:=(c9.2 r hr).1;omega) U0 da
 have b9:=zH c9;clear hR hf hA c9;generalize hO:refOps p m md=O at *;have HO:=zH hO;clear hO;go_enter func37,ntmps37;go_upto_region 1 with fail;have a6:zK ((w.alloc (C2 p m A n cA)).heap.size=w.heap.size+1):=U7;generalize w.alloc (C2 p m A n cA)=W0 at *;go_wp2_with fail;(with_reducible refine(bj.o W0 HX.o.bl).mono ?_);rintro e w1 ⟨⟨R,cR,bs0,rfl,hg0⟩,hb1⟩;rw[a6.o] at hg0;have J:zK (RelRE w p m A n cA R cR O rows cols cols (zL none 0 0) (Y ((0:Nat):Int)) (Y ((0:Nat):Int)) w1):=⟨0,bs0,none,0,U0,rfl,rfl,rfl,HX.o.grow hb1,hg0,⟨World.ownsRow_nil _ _ _ _,fun _ _=>by simp[Value.ownBlock]⟩,rfl⟩;clear hg0 hb1 HX bj a6;clear W0;obtain⟨cr,hi,b3,b6,b7⟩:=qaF infoInt;have HI:=zH hi;have cf:=zH b3;have cg:=zH b6;have ci:=zH b7;clear hi b3 b6 b7;go_wp2_with fail;go_loopg [9,10,11] cols (fun g v9 v10 v11 wr=>RelRE w p m A n cA R cR O rows cols g v9 v10 v11 wr);case atStart=>exact J.o
 case round =>
  obtain⟨c,bs,V,X,cz,rfl,rfl,rfl,bv⟩:=hrel;have L:=zH bv;have b2:=qfD (O:=O) rows c;have cm:=qeN (O:=O) rows c;have be:=zH b2;have ah:zK (elGo O rows (c+1)=elStep O c (elGo O rows c)):=rfl;have bb:zK ((elGo O rows c).piv.length=rows.length->elGo O rows cols=elGo O rows c):=fun h=>by have:=elGo_full (O:=O) rows h (cols-c);rw[show c+(cols-c)=cols by omega] at this;exact this
  have N:=zH<|(qdT aw.o b9.o c U0).2
  clear bv b2 J;generalize cn:elGo O rows c=s at *;by_cases ac:c<cols
  . by_cases C : s.piv.length < rows.length
    . go_upto_block 2 with fail;go_cut [12] (fun v12 wx=>RelK0 wr s.rows c rows.length s.piv.length v12 wx);case first =>
       have bn:zK (∃k:Nat,s.piv.length<=k/\k<=rows.length/\(Y (s.piv.length:Int):Value)=Y (k:Int)/\findRow s.rows c (rows.length-s.piv.length) s.piv.length=findRow s.rows c (rows.length-k) k):=⟨_,Nat.le_refl _,U0,rfl,rfl⟩;go_wp2;go_loop [12] (fun v12=>∃k:Nat,s.piv.length<=k/\k<=rows.length/\v12=Y (k:Int)/\findRow s.rows c (rows.length-s.piv.length) s.piv.length=findRow s.rows c (rows.length-k) k) (fun v12=>rows.length-(intOf v12).toNat);case atStart=>exact bn.o
       case round =>
        obtain⟨k,bg,c3,rfl,hf⟩:=hrel;have ba:=zH hf;clear hf bn;by_cases b0:k<rows.length
        . have yh := L.o.hd N.o b0;have ye:=L.o.en N.o b0 ac;(have ax:zK (findRow s.rows c (rows.length-k) k=if at2 s.rows k c=0 then findRow s.rows c (rows.length-(k+1)) (k+1) else k):=by show _=_;rw [show rows.length-k=(rows.length-(k+1))+1 by omega];rfl);have k0:(0:Int)<=(k:Int):=U0;have k1:(k:Int)<(rows.length:Int):=U0;have c0:(0:Int)<=(c:Int):=U0;have c1:(c:Int)<(cols:Int):=U0;by_cases hz:at2 s.rows k c=0
          . rw[if_pos hz] at ax;rw[hz] at ye;clear hz;go_wp2;go_round;case rel=>exact⟨k+1,U0,U0,U3,by rw[ba.o,ax.o]⟩
            case measure=>simp[intOf];omega
          . rw[if_neg hz] at ax;(have c6:(((at2 s.rows k c:Nat):Int)==0)=false:=by simpa using hz);go_wp2;go_meet;exact⟨by rw[ba.o,ax.o],rfl⟩
        . (obtain rfl:k=rows.length:=by omega);go_wp2;go_meet;exact⟨by rw[ba.o,Nat.sub_self];rfl,rfl⟩
      case rest =>
       obtain⟨rfl,rfl⟩:=hcut;have bw:=qdF s.rows c (rows.length-s.piv.length) s.piv.length;by_cases a5:findRow s.rows c (rows.length-s.piv.length) s.piv.length=rows.length
       . (have bf : zK (elGo O rows (c + 1) = s):=by show _=_;rw[ah.o];unfold elStep;rw[if_pos (by rw[be.o];exact C),if_pos (by rw[be.o];exact a5)]);rw[a5];clear a5 bw;go_wp2_with fail;go_roundg (cols-(c+1));case measure=>omega
         case rel=>exact⟨c+1,bs,V,X,U0,U3,by rw[bf.o],by rw[bf.o],by rw[bf.o];exact L.o⟩
       . (have a4 : findRow s.rows c (rows.length - s.piv.length) s.piv.length < rows.length := by omega);(have bz:findRow s.rows c (rows.length-s.piv.length) s.piv.length=findRow s.rows c (s.rows.length-s.piv.length) s.piv.length:=by rw [be.o]);(have cl:(((findRow s.rows c (rows.length-s.piv.length) s.piv.length:Nat):Int)==(rows.length:Int))=false:=by rw [beq_eq_false_iff_ne];omega);obtain ⟨g1,e1,g2,g3,bu⟩:=col_facts2 aw.o N.o C ac bz a4;have a9:=zH (ah.o.trans bu);have az:=zH (L.o.swap (i:=s.piv.length) (j:=findRow s.rows c (rows.length-s.piv.length) s.piv.length) C a4);rw [hdr_eq N.o bs C,hdr_eq N.o bs a4] at az;have yk:=L.o.hd N.o a4;have yt:=L.o.hd N.o C;clear bw a5 bz bu;generalize findRow s.rows c (rows.length-s.piv.length) s.piv.length=k at *;have G1:=zH g1;have E1:=zH e1;have G2:=zH g2;have G3:=zH g3;(have bc:zK (at2 (swapRows s.rows s.piv.length k) s.piv.length c=1->normRow O (swapRows s.rows s.piv.length k) s.piv.length c=swapRows s.rows s.piv.length k):=fun h=>by unfold normRow;rw [if_pos h]);(have bd:zK (at2 (swapRows s.rows s.piv.length k) s.piv.length c≠1->normRow O (swapRows s.rows s.piv.length k) s.piv.length c=(swapRows s.rows s.piv.length k).set s.piv.length (scaleRow O (O.inv (at2 (swapRows s.rows s.piv.length k) s.piv.length c)) ((swapRows s.rows s.piv.length k).getD s.piv.length []))):=fun h=>by unfold normRow;rw [if_neg h]);clear g1 e1 g2 g3;generalize normRow O (swapRows s.rows s.piv.length k) s.piv.length c=b at *;have t0:(0:Int)<=(s.piv.length:Int):=U0;have t1:(s.piv.length:Int)<(rows.length:Int):=U0;have k0:(0:Int)<=(k:Int):=U0;have k1:(k:Int)<(rows.length:Int):=U0;have ft:=L.o.2.1.frozen s.piv.length;have fk:=L.o.2.1.frozen k;go_upto_region 11 with fail;go_cut [10] (fun v10 wx=>RelES w p m A n cA R cR (swapRows s.rows s.piv.length k) rows.length (zL V s.piv.length X) s.piv v10 wx);case first =>
          by_cases bg:s.piv.length=k
          . subst bg;go_region
            all_goals
             obtain⟨I,aq⟩:=az.o
             have HX:=zH (aq.grow zV.drew)
             clear aq yk yt ft fk
             go_wp2
             go_meet
             exact⟨rfl,I,HX.o⟩
          . have c4 : k ≠ s.piv.length := fun e => bg e.symm;go_region
            all_goals
             obtain⟨I,aq⟩:=az.o
             have HX:=zH (aq.grow zV.drew)
             clear aq yk yt ft fk
             go_wp2
             go_meet
             exact⟨rfl,I,HX.o⟩
         case rest =>
          obtain ⟨rfl,K,Z⟩:=hcut;clear yk yt ft fk k0 k1 cl az L;generalize swapRows s.rows s.piv.length k=E at *;have D:=zH Z;have yt:=Z.hd G1.out C;have ye:=Z.en G1.out C ac;have hx:=G1.out.at_ C ac;have aj:=zH (G1.out.row C);have U:=(aw.o.inv _ hx E1.o).2;clear Z;generalize at2 E s.piv.length c=x at *;have ce:=zH E1.o;have c0:(0:Int)<=(c:Int):=U0;have c1:(c:Int)<(cols:Int):=U0;go_upto_if 69 with fail;go_cut [10] (fun v10 wx=>RelES w p m A n cA R cR b rows.length (zL V s.piv.length X) s.piv v10 wx);case first =>
           by_cases au:x=1
           . (have co:((x:Int) != 1)=false:=by rw[au];rfl);have HN:=zH (bc.o au);clear au yt ye;go_wp2;go_meet;exact⟨rfl,K,by rw[HN.o];exact D.o⟩
           . (have co : ((x : Int) != 1) = true := by rw [bne_iff_ne];omega);have HN:=zH (bd.o au);clear au;have z0:=D.o.1.c0;have z1:=D.o.1.c1;have z2:=D.o.1.c2;have ft:=D.o.2.1.frozen s.piv.length;have l0:=D.o.1.2.1;have lR:=D.o.2.1.lt.2;(have bm:zK (∀ W,LS wc W->zC 84 #[C4 p m A n cA,Y x] W fun e w'=>e=.returned (Y ((O.inv x:Nat):Int))/\LS wc w'):=fun W f=>by have S:zB w W:=D.o.1.bl.trans (Below.mono f (Nat.le_of_lt l0));have:=(ay.o W S).inv hx cA;rw [HO.o] at this;exact this.mono fun e w' ⟨he,hb⟩=>⟨he,Below.trans f (hb.mono (Below.size f))⟩);have ag:zK (∀ W,LS wc W->W.rangeAt w.heap.size 0 (C5 p m A n cA)):=fun W f=>(D.o.1.grow f).range;(have ap:(scaleRow O (O.inv x) (E.getD s.piv.length [])).length=cols:=by unfold scaleRow;rw [List.length_map,aj.o.1]);(have cd:zK (∀ W,zB wc W->zC 83 #[C4 p m A n cA,Y ((O.inv x:Nat):Int),zS (bk K s.piv.length) cols (cp K s.piv.length)] W fun e w'=>(∃ g,e=.returned (zS g cols cols)/\Row w' W.heap.size g cols (nz (scaleRow O (O.inv x) (E.getD s.piv.length []))))/\zB W w'):=fun W f=>by have S:=D.o.1.bl.trans (f.mono (Nat.le_of_lt l0));have:=rscale_c p m md A n cA (O.inv x) (E.getD s.piv.length []) (zO (bk K s.piv.length)) (cp K s.piv.length) W (ay.o W S) U aj.o.2 ((D.o.ints C).keep f |>.more f.size) (by rw [aj.o.1];omega);rw [aj.o.1,HO.o] at this;exact this);(have ae:zK (∀ (W:Wo)(g:Nat),zB wc W->Row W wc.heap.size g cols (nz (scaleRow O (O.inv x) (E.getD s.piv.length [])))->∃ I,ES w p m A n cA R cR b rows.length (zL V s.piv.length X) s.piv I (W.setCell (zA R s.piv.length) (zS g cols cols))):=fun W g f hr=>by have:=D.o.put f C hr;rw [ap,<- HN.o] at this;exact ⟨_,this⟩);clear ap U hx HN bc bd;generalize O.inv x=iv at *;generalize scaleRow O iv (E.getD s.piv.length [])=sr at *;go_upto_region 13 with fail
             have ad:zK (∀W,LS wc W->W.cell? (zA w.heap.size 0)=some (Y (p:Int))/\W.cell? (zA w.heap.size 1)=some (Y (m:Int))/\W.cell? (zA w.heap.size 2)=some (zL A n cA)/\W.cell? (zA R s.piv.length)=some (zS (bk K s.piv.length) cols (cp K s.piv.length))/\W.cell? (zA (bk K s.piv.length) c)=some (Y (x:Int))):=fun W f=>
              ⟨(Below.cell f l0).trans z0,(Below.cell f l0).trans z1,(Below.cell f l0).trans z2,(Below.cell f lR).trans yt,(Below.cell f (World.block_lt_of_cell? _ _ ye)).trans ye⟩
             have J:zK (LS wc wc.drew):=zV.drew;clear z0 z1 z2 yt ye;refine qbM 17 (LS wc) [(true,0),(true,1),(true,2),(true,3),(true,4),(true,5),(true,6),(true,7),(true,8),(true,9),(true,10),(true,12),(true,13),(true,14),(true,15),(false,11),(false,16)] default U1 U1 (fun _ _ d _ _ h=>by cases d<;>exact h) J.o ?_;simp only[List.map_cons,List.map_nil,List.getD_cons_zero,List.getD_cons_succ]
             repeat (first
              | (refine qcS rfl 24 (.tmp 3) rfl w.heap.size 0 rfl (C5 p m A n cA) _ ag.o underlying24 rfl fieldSize ?_
                 go_simp)
              | (apply qcH rfl
                 . intro W f
                   obtain⟨z0,z1,z2,yt,ye⟩:=ad.o W f
                   go_simp
                   rfl
                 go_simp))
             apply qcE rfl
             . go_simp;exact⟨rfl,rfl⟩
             refine(bm.o _ J.o).mono ?_;rintro e w1 ⟨rfl,hb1'⟩;refine⟨_,rfl,hb1',?_⟩;go_simp;apply qcE rfl
             . go_simp;exact⟨rfl,rfl⟩
             refine(cd.o w1 hb1').mono ?_;rintro e w2 ⟨⟨g,rfl,hr2⟩,hb2⟩;have ak:=Below.size hb1';have z:=Below.trans hb1' (hb2.mono ak);refine⟨_,rfl,z,?_⟩;go_simp;refine qeJ ?_;(try simp only[List.drop_succ_cons,List.drop_zero]);have c8:=(ad.o w2 z).2.2.2.1;have cx:=(z.frozen (p:=(zA R s.piv.length)) lR).trans ft;have HY:=zH (ae.o w2 g z (hr2.base (by have:=hr2.lt.1;omega)));clear ft z hb2 hr2;go_wp2;go_meet;exact⟨rfl,HY.o⟩
          case rest =>
           obtain⟨rfl,cj,a7⟩:=hcut;have bo:zK (RelRC w p m A n cA R cR O c b rows.length (zL V s.piv.length X) s.piv (Y ((0:Nat):Int)) wc):=⟨0,cj,Nat.zero_le _,rfl,a7⟩;clear a7 yt ye D ce U hx aj bc bd;go_wp2;go_loopw [13] (fun v13 wr=>RelRC w p m A n cA R cR O c b rows.length (zL V s.piv.length X) s.piv v13 wr) (fun v13 _=>rows.length-(intOf v13).toNat);case atStart=>exact bo.o
           case round =>
            obtain⟨i,v,hi,rfl,H⟩:=hrel;have B:=zH H;clear bo;by_cases ab:i<rows.length
            . have T := G3.out i hi;have yi:=H.hd T ab;have yt:=H.hd T C;have ye:=H.en T ab ac;have hx:=T.at_ ab ac;have Q:=zH (T.row ab);have a0:=zH (T.row C);have an:=(aw.o.neg _ hx).2;have P:zK (i=s.piv.length\/at2 (clearGo O c s.piv.length b i) i c=0->clearGo O c s.piv.length b (i+1)=clearGo O c s.piv.length b i):=clear_stay;have ai:zK (i≠s.piv.length->at2 (clearGo O c s.piv.length b i) i c≠0->clearGo O c s.piv.length b (i+1)=(clearGo O c s.piv.length b i).set i (addRow O ((clearGo O c s.piv.length b i).getD i []) (O.neg (at2 (clearGo O c s.piv.length b i) i c)) ((clearGo O c s.piv.length b i).getD s.piv.length []))):=clear_turn;have af:zK (∀ wx,(∃ I,ES w p m A n cA R cR (clearGo O c s.piv.length b (i+1)) rows.length (zL V s.piv.length X) s.piv I wx)->RelRC w p m A n cA R cR O c b rows.length (zL V s.piv.length X) s.piv (Y ((i:Int)+1)) wx):=fun wx ⟨I,h⟩=>⟨i+1,I,U0,U3,h⟩;clear H T;generalize clearGo O c s.piv.length b i=q at *;generalize clearGo O c s.piv.length b (i+1)=bh at *;generalize at2 q i c=y at *;have i0:(0:Int)<=(i:Int):=U0;have i1:(i:Int)<(rows.length:Int):=U0;by_cases a3:i=s.piv.length
              . (have bx : ((i : Int) != (s.piv.length : Int)) = false:=by rw[a3];simp);have aa:=zH (P.o (.inl a3));clear a3 yi yt ye;go_wp2;go_roundw;case rel=>exact af.o _ ⟨v,by rw[aa.o];exact B.o⟩
                case measure=>simp[intOf];omega
              . (have bx : ((i : Int) != (s.piv.length : Int)) = true := by rw [bne_iff_ne];omega);by_cases av:y=0
                . (have cq : ((y : Int) != 0) = false:=by rw[av];rfl);have aa:=zH (P.o (.inr av));clear av;go_wp2;go_roundw;case rel=>exact af.o _ ⟨v,by rw[aa.o];exact B.o⟩
                  case measure=>simp[intOf];omega
                . (have cq : ((y : Int) != 0) = true := by rw [bne_iff_ne];omega);have aa:=zH (ai.o a3 av);have z0:=B.o.1.c0;have z1:=B.o.1.c1;have z2:=B.o.1.c2;have fi:=B.o.2.1.frozen i;have l0:=B.o.1.2.1;have lR:=B.o.2.1.lt.2;have cy:=B.o.2.1.lt.1;(have bp:zK (∀ W,LS wr W->zC 38 #[C4 p m A n cA,Y y] W fun e w'=>e=.returned (Y ((O.neg y:Nat):Int))/\LS wr w'):=fun W f=>by have S:zB w W:=B.o.1.bl.trans (Below.mono f (Nat.le_of_lt l0));have:=(ay.o W S).neg hx cA;rw [HO.o] at this;exact this.mono fun e w' ⟨he,hb⟩=>⟨he,Below.trans f (hb.mono (Below.size f))⟩);have ag:zK (∀ W,LS wr W->W.rangeAt w.heap.size 0 (C5 p m A n cA)):=fun W f=>(B.o.1.grow f).range;(have ap:(addRow O (q.getD i []) (O.neg y) (q.getD s.piv.length [])).length=cols:=by rw [qbU _ _ _ _ (by rw [Q.o.1,a0.o.1]),Q.o.1]);(have bi:zK (∀ W,zB wr W->zC 39 #[C4 p m A n cA,zS (bk v i) cols (cp v i),Y ((O.neg y:Nat):Int),zS (bk v s.piv.length) cols (cp v s.piv.length)] W fun e w'=>(∃ g,e=.returned (zS g cols cols)/\Row w' W.heap.size g cols (nz (addRow O (q.getD i []) (O.neg y) (q.getD s.piv.length []))))/\zB W w'):=fun W f=>by have S:=B.o.1.bl.trans (f.mono (Nat.le_of_lt l0));have:=raddto_c p m md A n cA (O.neg y) (q.getD i []) (q.getD s.piv.length []) (zO (bk v i)) (zO (bk v s.piv.length)) (cp v i) (cp v s.piv.length) W (ay.o W S) an Q.o.2 a0.o.2 (by rw [Q.o.1,a0.o.1]) ((B.o.ints ab).keep f |>.more f.size) ((B.o.ints C).keep f |>.more f.size) (by rw [Q.o.1];omega);rw [Q.o.1,HO.o] at this;exact this);(have ae:zK (∀ (W:Wo)(g:Nat),zB wr W->Row W wr.heap.size g cols (nz (addRow O (q.getD i []) (O.neg y) (q.getD s.piv.length [])))->∃ I,ES w p m A n cA R cR bh rows.length (zL V s.piv.length X) s.piv I (W.setCell (zA R i) (zS g cols cols))):=fun W g f hr=>by have:=B.o.put f ab hr;rw [ap,<- aa.o] at this;exact ⟨_,this⟩);clear ap an hx aa P ai Q a0 av;generalize O.neg y=ny at *;generalize addRow O (q.getD i []) ny (q.getD s.piv.length [])=ar at *;go_upto_region 18 with fail
                  have ad:zK (∀W,LS wr W->W.cell? (zA w.heap.size 0)=some (Y (p:Int))/\W.cell? (zA w.heap.size 1)=some (Y (m:Int))/\W.cell? (zA w.heap.size 2)=some (zL A n cA)/\W.cell? (zA R i)=some (zS (bk v i) cols (cp v i))/\W.cell? (zA R s.piv.length)=some (zS (bk v s.piv.length) cols (cp v s.piv.length))/\W.cell? (zA (bk v i) c)=some (Y (y:Int))):=fun W f=>
                   ⟨(Below.cell f l0).trans z0,(Below.cell f l0).trans z1,(Below.cell f l0).trans z2,(Below.cell f lR).trans yi,(Below.cell f lR).trans yt,(Below.cell f (World.block_lt_of_cell? _ _ ye)).trans ye⟩
                  have J:zK (LS wr wr.drew):=zV.drew;clear z0 z1 z2 yi yt ye;refine qbM 21 (LS wr) [(true,0),(true,1),(true,2),(true,3),(true,4),(true,5),(true,6),(true,7),(true,8),(true,9),(true,10),(true,11),(true,12),(true,13),(true,14),(true,16),(true,17),(true,18),(true,19),(false,15),(false,20)] default U1 U1 (fun _ _ d _ _ h=>by cases d<;>exact h) J.o ?_;simp only[List.map_cons,List.map_nil,List.getD_cons_zero,List.getD_cons_succ]
                  repeat (first
                   | (refine qcS rfl 24 (.tmp 3) rfl w.heap.size 0 rfl (C5 p m A n cA) _ ag.o underlying24 rfl fieldSize ?_
                      go_simp)
                   | (apply qcH rfl
                      . intro W f
                        obtain⟨z0,z1,z2,yi,yt,ye⟩:=ad.o W f
                        go_simp
                        rfl
                      go_simp))
                  apply qcE rfl
                  . go_simp;exact⟨rfl,rfl⟩
                  refine(bp.o _ J.o).mono ?_;rintro e w1 ⟨rfl,hb1'⟩;refine⟨_,rfl,hb1',?_⟩;go_simp;apply qcE rfl
                  . go_simp;exact⟨rfl,rfl⟩
                  refine(bi.o w1 hb1').mono ?_;rintro e w2 ⟨⟨g,rfl,hr2⟩,hb2⟩;have ak:=Below.size hb1';have z:=Below.trans hb1' (hb2.mono ak);refine⟨_,rfl,z,?_⟩;go_simp;refine qeJ ?_;(try simp only[List.drop_succ_cons,List.drop_zero]);have c7:=(ad.o w2 z).2.2.2.1;have cw:=(z.frozen (p:=(zA R i)) lR).trans fi;have HY:=zH (af.o _ (ae.o w2 g z (hr2.base (by have:=hr2.lt.1;omega))));clear fi z hb2 hr2;go_wp2;go_roundw;case rel=>exact HY.o
                  case measure=>simp[intOf];omega
            . (obtain rfl : i = rows.length:=by omega);have ct:=cm.1;have c5:w.heap.size+1<=wr.heap.size:=H.1.2.1;have bq:zK (∀(W:Wo)(v':Value),w.heap.size+1<=W.heap.size->W.ownsRow (w.heap.size+1) 3 1 v' (s.piv.length+1) ((nz s.piv).map (Value.int .i64)++[Y (c:Int)])->(wr.alloc (.cells #[Y (c:Int)] 3)).grownBy W (Value.slice V s.piv.length X).ownBlock->(v'.ownBlock=(Value.slice V s.piv.length X).ownBlock\/v'.ownBlock=some (wr.heap.size+1))->∃(a1:OA)(a2:Nat),v'=zL a1 (s.piv++[c]).length a2/\ES w p m A n cA R cR (clearGo O c s.piv.length b rows.length) rows.length (zL a1 (s.piv++[c]).length a2) (s.piv++[c]) v W):=fun W v' _ h1 h2 h3=>B.o.push h1 h2 h3;have b1:=H.2.2.1.1;clear H;have br:=zH b1;clear b1;go_wp2_with (at_builtin;refine wpList_append_own_at _ rfl (.tmp 129) (.tmp 131) 22 rfl (w.heap.size+1) 3 cr _ 1 8 underlying22 HI.o cf.o cg.o ci.o rfl dc (zL V s.piv.length X) s.piv.length ((nz s.piv).map (Value.int .i64)) rfl (World.ownsRow.alloc br.o _) (zA wr.heap.size 0) 1 1 [Y (c:Int)] rfl rfl ?d1 ?d2 ?d3 ?d4 ?d5 ?_);case d1=>exact World.news_of_block (cs:=#[Y (c:Int)]) (t:=3) (fr:=(0,0)) (heap_alloc_new wr _)
              case d2=>intro u hu;simp at hu;subst hu;rfl
              case d3=>unfold maxLen;omega
              case d4=>omega
              case d5=>simp;omega
              intro v' w3 ao al _ bt;obtain⟨a1,a2,rfl,a8⟩:=bq.o w3 v' (by have:=al.size;simp at this;omega) ao al (by simpa using bt);have b8:=zH a8;clear a8 ao al bt bq br;go_wp2_with fail;go_roundg (cols-(c+1));case measure=>omega
              case rel=>exact⟨c+1,v,a1,a2,U0,U3,by rw[a9.o,List.length_append];go_num,by rw[a9.o],by rw[a9.o];exact b8.o⟩
    . (have M:=zH<|bb.o U0);go_wp2;go_ret2;exact⟨⟨R,cR,V,X,bs,by rw[M.o];rfl,by rw[M.o];exact L.o.2.1,by rw[M.o];exact ints_own L.o.2.2.1.1 rfl⟩,L.o.1.bl⟩
  . (have ck:c=cols:=by omega);(have M:zK (elGo O rows cols=s):=by rw[<- ck];exact cn);go_wp2;go_ret2;exact⟨⟨R,cR,V,X,bs,by rw[M.o];rfl,by rw[M.o];exact L.o.2.1,by rw[M.o];exact ints_own L.o.2.2.1.1 rfl⟩,L.o.1.bl⟩
end Go.Proofs.YtflejelbdlelpaaGreat
