/- Parts of the proof. -/
import Derived.Test.YtndipkplnkfoeaaGreatR10
set_option maxRecDepth 100000
set_option maxHeartbeats 8000000
namespace Go.Proofs.YtndipkplnkfoeaaGreat
open Go.RowKit Pln
theorem ints_own{w:World}{B n k:Nat}{i:Option Addr}{l:List Nat}(h:w.ownsRow B 3 1 (zL i n k) n ((nz l).map (Value.int .i64)))(m:l.length=n):IntsAt w w.heap.size i (nz l):=fun hz=>by
 rw[qaA] at hz
 obtain⟨d,f,e,g⟩:=own_slice' h
 injection e with e1 e2 e3
 subst e1
 obtain⟨R,rfl⟩:=g U0
 have c:=World.ownsRow.lt h R rfl
 refine⟨R,0,rfl,c.2,fun j hj=>?_⟩
 rw[qaA] at hj
 rw[Nat.zero_add,World.ownsRow.cellAt h j U0]
 have b:j<(nz l).length:=by rw[qaA];exact hj
 simp[List.getD,b]
def LS(w0 W:World):Prop:=Below w0.heap.size w0 W
theorem SBoxF.bl{w:World}{p m:Int}{A:Option Addr}{n c:Nat}{W:World}(h:SBoxF w p m A n c W):Below w.heap.size w W:=h.1
theorem qeI{p m:Nat}{md:List Nat}{A:Option Addr}{n B:Nat}{W:World}(h:RFld p m md A n B W)(c:∃l,FT p m md l):OpsEq (p^m) (refOps p m md) (refOps p m md):=by
 obtain⟨l,b⟩:=c;have e:=ops_eq b h.len
 exact⟨fun x y hx hy=>⟨rfl,by rw[<- (e.add x y hx hy).1];exact(e.add x y hx hy).2⟩,fun x y hx hy=>⟨rfl,by rw[<- (e.mul x y hx hy).1];exact(e.mul x y hx hy).2⟩,
  fun x hx=>⟨rfl,by rw[<- (e.neg x hx).1];exact(e.neg x hx).2⟩,fun x hx h0=>⟨rfl,by rw[<- (e.inv x hx h0).1];exact(e.inv x hx h0).2⟩⟩
theorem col_facts2{q:Nat}{O:Ops}(E:OpsEq q O O){n j c k:Nat}{s:ElS}(p:Grid q n j s.rows)(l:s.piv.length<n)(m:c<j)(r:k=findRow s.rows c (s.rows.length-s.piv.length) s.piv.length)(o:k<n):
 Grid q n j (swapRows s.rows s.piv.length k)/\at2 (swapRows s.rows s.piv.length k) s.piv.length c≠0/\Grid q n j (normRow O (swapRows s.rows s.piv.length k) s.piv.length c)/\
 (∀i,i<=n->Grid q n j (clearGo O c s.piv.length (normRow O (swapRows s.rows s.piv.length k) s.piv.length c) i))/\
 elStep O c s=⟨clearGo O c s.piv.length (normRow O (swapRows s.rows s.piv.length k) s.piv.length c) n,s.piv++[c]⟩:=by
 have b:=p.1;have g:=qdC p l o;have d:at2 s.rows k c≠0:=by have:=qcF s.rows c (s.rows.length-s.piv.length) s.piv.length U0;rw[<- r] at this;exact this
 have f:at2 (swapRows s.rows s.piv.length k) s.piv.length c≠0:=by unfold at2 at d ⊢;rw[swap_at U0 U0];exact d
 have h:=(norm_eq E g l m f).2;refine⟨g,f,h,fun i hi=>(qdJ E h m l i hi).2,?_⟩;unfold elStep;rw[if_pos U0,<- r,if_neg U0,b]
def RelRE(w:World)(p m:Nat)(A:Option Addr)(n cA R cR:Nat)(O:Ops)(rows:List (List Nat))(cols g:Nat)(v9 v10 v11:Value)(wr:World):Prop:=
 ∃(cc:Nat)(bs:List (Nat × Nat))(VA:Option Addr)(Vk:Nat),cc+g=cols/\v11=Y (cc:Int)/\v10=Y ((elGo O rows cc).piv.length:Int)/\v9=zL VA (elGo O rows cc).piv.length Vk/\ES w p m A n cA R cR (elGo O rows cc).rows rows.length (zL VA (elGo O rows cc).piv.length Vk) (elGo O rows cc).piv bs wr
def RElPost(w:World)(O:Ops)(rows:List (List Nat))(cols:Nat)(e:Ending)(w':World):Prop:=
 (∃(R cR:Nat)(VA:Option Addr)(ck:Nat)(bs:List (Nat × Nat)),e=.returned (.tuple #[zS R rows.length cR,zL VA (elGo O rows cols).piv.length ck])/\GridAt w' (w.heap.size+1) R cR (elGo O rows cols).rows bs/\IntsAt w' w'.heap.size VA (nz (elGo O rows cols).piv))/\Below w.heap.size w w'
def RelK0(w1:World)(rows:List (List Nat))(c N t:Nat)(v12:Value)(wx:World):Prop:=v12=Y ((findRow rows c (N-t) t:Nat):Int)/\wx=w1
def RelES(w:World)(p m:Nat)(A:Option Addr)(n cA R cR:Nat)(rows:List (List Nat))(N:Nat)(v9:Value)(piv:List Nat)(vt:Value)(wx:World):Prop:=vt=Y (piv.length:Int)/\∃bs,ES w p m A n cA R cR rows N v9 piv bs wx
def RelRC(w:World)(p m:Nat)(A:Option Addr)(n cA R cR:Nat)(O:Ops)(c:Nat)(rows2:List (List Nat))(N:Nat)(v9:Value)(piv:List Nat)(v13:Value)(wx:World):Prop:=∃(i:Nat)(bs:List (Nat × Nat)),i<=N/\v13=Y (i:Int)/\ES w p m A n cA R cR (clearGo O c piv.length rows2 i) N v9 piv bs wx
theorem reliminate_c(p m:Nat)(md:List Nat)(A:Option Addr)(n cA:Nat)(rows:List (List Nat))(A2:Option Addr)(c2 c8:Nat)(w:World)(hR:RFld p m md A n w.heap.size w)(hf:∃ l,FT p m md l)(c9:Grid (p ^ m) rows.length c8 rows)(hA:RowsAt w w.heap.size A2 (nzs rows))(h1:1<=c8)(hc:c8<=256)(da:0<rows.length)(hn:rows.length<=256):
 zC 87 #[Ch p m A n cA,zL A2 rows.length c2,Y c8] w (RElPost w (refOps p m md) rows c8):=by
 have HX:=zH (qbK w p m A n cA);have aw:=zH (qeI hR hf);have ay:Hid (∀W,Below w.heap.size w W->RFld p m md A n W.heap.size W):=fun W f=>(hR.keep f).more f.size
 have bj:Hid (∀W,Below w.heap.size w W->zC 147 #[zL A2 rows.length c2] W fun e w'=>(∃R cR bs,e=.returned (zS R rows.length cR)/\GridAt w' W.heap.size R cR rows bs)/\Below W.heap.size W w'):=fun W f=>
  rcopy_c rows A2 c2 W ((hA.keep f).more f.size) (fun r hr=>by have:=(c9.2 r hr).1;omega) U0 da
 have b9:=zH c9;clear hR hf hA c9;generalize hO:refOps p m md=O at *;have HO:=zH hO;clear hO;go_enter Tryz.func87,Tryz.ntmps87;go_upto_region 1 with fail;have a6:Hid ((w.alloc (Ce p m A n cA)).heap.size=w.heap.size+1):=U7;generalize w.alloc (Ce p m A n cA)=W0 at *;go_wp2_with fail;(with_reducible refine(bj.out W0 HX.out.bl).mono ?_);rintro e w1 ⟨⟨R,cR,bs0,rfl,hg0⟩,hb1⟩;rw[a6.out] at hg0;have I:Hid (RelRE w p m A n cA R cR O rows c8 c8 (zL none 0 0) (Y ((0:Nat):Int)) (Y ((0:Nat):Int)) w1):=⟨0,bs0,none,0,U0,rfl,rfl,rfl,HX.out.grow hb1,hg0,⟨World.ownsRow_nil _ _ _ _,fun _ _=>by simp[Value.ownBlock]⟩,rfl⟩;clear hg0 hb1 HX bj a6;clear W0;obtain⟨cq,hi,b3,b6,b7⟩:=qaF infoInt;have HI:=zH hi;have cf:=zH b3;have cg:=zH b6;have ch:=zH b7;clear hi b3 b6 b7;go_wp2_with fail;go_loopg [9,10,11] c8 (fun g v9 v10 v11 wr=>RelRE w p m A n cA R cR O rows c8 g v9 v10 v11 wr);case atStart=>exact I.out
 case round =>
  obtain⟨c,bs,U,V,cy,rfl,rfl,rfl,bv⟩:=hrel;have K:=zH bv;have b2:=elGo_len (O:=O) rows c;have cl:=elGo_piv (O:=O) rows c;have be:=zH b2;have ah:Hid (elGo O rows (c+1)=elStep O c (elGo O rows c)):=rfl;have bb:Hid ((elGo O rows c).piv.length=rows.length->elGo O rows c8=elGo O rows c):=fun h=>by have:=elGo_full (O:=O) rows h (c8-c);rw[show c+(c8-c)=c8 by omega] at this;exact this
  have M:Hid (Grid (p^m) rows.length c8 (elGo O rows c).rows):=(qdT aw.out b9.out c U0).2;clear bv b2 I;generalize cm:elGo O rows c=s at *;by_cases ac:c<c8
  . by_cases B : s.piv.length < rows.length
    . go_upto_block 2 with fail;go_cut [12] (fun v12 wx=>RelK0 wr s.rows c rows.length s.piv.length v12 wx);case first =>
       have bn:Hid (∃k:Nat,s.piv.length<=k/\k<=rows.length/\(Y (s.piv.length:Int):Value)=Y (k:Int)/\findRow s.rows c (rows.length-s.piv.length) s.piv.length=findRow s.rows c (rows.length-k) k):=⟨_,Nat.le_refl _,U0,rfl,rfl⟩;go_wp2_with fail;go_loop [12] (fun v12=>∃k:Nat,s.piv.length<=k/\k<=rows.length/\v12=Y (k:Int)/\findRow s.rows c (rows.length-s.piv.length) s.piv.length=findRow s.rows c (rows.length-k) k) (fun v12=>rows.length-(intOf v12).toNat);case atStart=>exact bn.out
       case round =>
        obtain⟨k,bg,cz,rfl,hf⟩:=hrel;have ba:=zH hf;clear hf bn;by_cases b0:k<rows.length
        . have yh := K.out.hd M.out b0;have Z:=K.out.en M.out b0 ac;(have ax:Hid (findRow s.rows c (rows.length-k) k=if at2 s.rows k c=0 then findRow s.rows c (rows.length-(k+1)) (k+1) else k):=by show _=_;rw [show rows.length-k=(rows.length-(k+1))+1 by omega];rfl);have k0:(0:Int)<=(k:Int):=U0;have k1:(k:Int)<(rows.length:Int):=U0;have c0:(0:Int)<=(c:Int):=U0;have c1:(c:Int)<(c8:Int):=U0;by_cases hz:at2 s.rows k c=0
          . rw[if_pos hz] at ax;rw[hz] at Z;clear hz;go_wp2_with fail;go_round;case rel=>exact⟨k+1,U0,U0,gn,by rw[ba.out,ax.out]⟩
            case measure=>exact mE
          . rw[if_neg hz] at ax;(have c5:(((at2 s.rows k c:Nat):Int)==0)=false:=by simpa using hz);go_wp2_with fail;go_meet;exact⟨by rw[ba.out,ax.out],rfl⟩
        . (obtain rfl:k=rows.length:=by omega);go_wp2_with fail;go_meet;exact⟨by rw[ba.out,Nat.sub_self];rfl,rfl⟩
      case rest =>
       obtain⟨rfl,rfl⟩:=hcut;have bw:=qdF s.rows c (rows.length-s.piv.length) s.piv.length;by_cases a5:findRow s.rows c (rows.length-s.piv.length) s.piv.length=rows.length
       . (have bf : Hid (elGo O rows (c + 1) = s):=by show _=_;rw[ah.out];unfold elStep;rw[if_pos (by rw[be.out];exact B),if_pos (by rw[be.out];exact a5)]);rw[a5];clear a5 bw;go_wp2_with fail;go_roundg (c8-(c+1));case measure=>omega
         case rel=>exact⟨c+1,bs,U,V,U0,gn,by rw[bf.out],by rw[bf.out],by rw[bf.out];exact K.out⟩
       . (have a4 : findRow s.rows c (rows.length - s.piv.length) s.piv.length < rows.length := by omega);(have bz:findRow s.rows c (rows.length-s.piv.length) s.piv.length=findRow s.rows c (s.rows.length-s.piv.length) s.piv.length:=by rw [be.out]);(have ck:(((findRow s.rows c (rows.length-s.piv.length) s.piv.length:Nat):Int)==(rows.length:Int))=false:=by rw [beq_eq_false_iff_ne];omega);obtain ⟨g1,e1,g2,g3,bu⟩:=col_facts2 aw.out M.out B ac bz a4;have a9:=zH (ah.out.trans bu);have az:=zH (K.out.swap (i:=s.piv.length) (j:=findRow s.rows c (rows.length-s.piv.length) s.piv.length) B a4);rw [hdr_eq M.out bs B,hdr_eq M.out bs a4] at az;have yk:=K.out.hd M.out a4;have yt:=K.out.hd M.out B;clear bw a5 bz bu;generalize findRow s.rows c (rows.length-s.piv.length) s.piv.length=k at *;have G1:=zH g1;have E1:=zH e1;have G2:=zH g2;have G3:=zH g3;(have bc:Hid (at2 (swapRows s.rows s.piv.length k) s.piv.length c=1->normRow O (swapRows s.rows s.piv.length k) s.piv.length c=swapRows s.rows s.piv.length k):=fun h=>by unfold normRow;rw [if_pos h]);(have bd:Hid (at2 (swapRows s.rows s.piv.length k) s.piv.length c≠1->normRow O (swapRows s.rows s.piv.length k) s.piv.length c=(swapRows s.rows s.piv.length k).set s.piv.length (scaleRow O (O.inv (at2 (swapRows s.rows s.piv.length k) s.piv.length c)) ((swapRows s.rows s.piv.length k).getD s.piv.length []))):=fun h=>by unfold normRow;rw [if_neg h]);clear g1 e1 g2 g3;generalize normRow O (swapRows s.rows s.piv.length k) s.piv.length c=b at *;have t0:(0:Int)<=(s.piv.length:Int):=U0;have t1:(s.piv.length:Int)<(rows.length:Int):=U0;have k0:(0:Int)<=(k:Int):=U0;have k1:(k:Int)<(rows.length:Int):=U0;have ft:=K.out.2.1.frozen s.piv.length;have fk:=K.out.2.1.frozen k;go_upto_region 11 with fail;go_cut [10] (fun v10 wx=>RelES w p m A n cA R cR (swapRows s.rows s.piv.length k) rows.length (zL U s.piv.length V) s.piv v10 wx);case first =>
          by_cases bg:s.piv.length=k
          . subst bg;go_region
            all_goals
             obtain⟨H,aq⟩:=az.out
             have HX:=zH (aq.grow (Below.refl _ _).drew)
             clear aq yk yt ft fk
             go_wp2_with fail
             go_meet
             exact⟨rfl,H,HX.out⟩
          . have c3 : k ≠ s.piv.length := fun e => bg e.symm;go_region
            all_goals
             obtain⟨H,aq⟩:=az.out
             have HX:=zH (aq.grow (Below.refl _ _).drew)
             clear aq yk yt ft fk
             go_wp2_with fail
             go_meet
             exact⟨rfl,H,HX.out⟩
         case rest =>
          obtain ⟨rfl,J,X⟩:=hcut;clear yk yt ft fk k0 k1 ck az K;generalize swapRows s.rows s.piv.length k=D at *;have C:=zH X;have yt:=X.hd G1.out B;have Z:=X.en G1.out B ac;have hx:=G1.out.at_ B ac;have aj:=zH (G1.out.row B);have T:=(aw.out.inv _ hx E1.out).2;clear X;generalize at2 D s.piv.length c=x at *;have ce:=zH E1.out;have c0:(0:Int)<=(c:Int):=U0;have c1:(c:Int)<(c8:Int):=U0;go_upto_if 69 with fail;go_cut [10] (fun v10 wx=>RelES w p m A n cA R cR b rows.length (zL U s.piv.length V) s.piv v10 wx);case first =>
           by_cases au:x=1
           . (have cn:((x:Int) != 1)=false:=by rw[au];rfl);have HN:=zH (bc.out au);clear au yt Z;go_wp2_with fail;go_meet;exact⟨rfl,J,by rw[HN.out];exact C.out⟩
           . (have cn : ((x : Int) != 1) = true := by rw [bne_iff_ne];omega);have HN:=zH (bd.out au);clear au;have z0:=C.out.1.c0;have z1:=C.out.1.c1;have z2:=C.out.1.c2;have ft:=C.out.2.1.frozen s.piv.length;have l0:w.heap.size<wc.heap.size:=C.out.1.2.1;have lR:R<wc.heap.size:=C.out.2.1.lt.2;(have bm:Hid (∀ W,LS wc W->zC 149 #[Ch p m A n cA,Y x] W fun e w'=>e=.returned (Y ((O.inv x:Nat):Int))/\LS wc w'):=fun W f=>by have Q:Below w.heap.size w W:=C.out.1.bl.trans (Below.mono f (Nat.le_of_lt l0));have:=(ay.out W Q).inv hx cA;rw [HO.out] at this;exact this.mono fun e w' ⟨he,hb⟩=>⟨he,Below.trans f (hb.mono (Below.size f))⟩);have ag:Hid (∀ W,LS wc W->W.rangeAt w.heap.size 0 (Ci p m A n cA)):=fun W f=>(C.out.1.grow f).range;(have ap:(scaleRow O (O.inv x) (D.getD s.piv.length [])).length=c8:=by unfold scaleRow;rw [List.length_map,aj.out.1]);(have cd:Hid (∀ W,Below wc.heap.size wc W->zC 148 #[Ch p m A n cA,Y ((O.inv x:Nat):Int),zS (bk J s.piv.length) c8 (cp J s.piv.length)] W fun e w'=>(∃ g,e=.returned (zS g c8 c8)/\Row w' W.heap.size g c8 (nz (scaleRow O (O.inv x) (D.getD s.piv.length []))))/\Below W.heap.size W w'):=fun W f=>by have Q:=C.out.1.bl.trans (f.mono (Nat.le_of_lt l0));have:=rscale_c p m md A n cA (O.inv x) (D.getD s.piv.length []) (zO (bk J s.piv.length)) (cp J s.piv.length) W (ay.out W Q) T aj.out.2 ((C.out.ints B).keep f |>.more f.size) (by rw [aj.out.1];omega);rw [aj.out.1,HO.out] at this;exact this);(have ae:Hid (∀ (W:World) (g:Nat),Below wc.heap.size wc W->Row W wc.heap.size g c8 (nz (scaleRow O (O.inv x) (D.getD s.piv.length [])))->∃ H,ES w p m A n cA R cR b rows.length (zL U s.piv.length V) s.piv H (W.setCell (zA R s.piv.length) (zS g c8 c8))):=fun W g f hr=>by have:=C.out.put f B hr;rw [ap,<- HN.out] at this;exact ⟨_,this⟩);clear ap T hx HN bc bd;generalize O.inv x=iv at *;generalize scaleRow O iv (D.getD s.piv.length [])=sr at *;go_upto_region 13 with fail
             have ad:Hid (∀W,LS wc W->W.cell? (zA w.heap.size 0)=some (Y (p:Int))/\W.cell? (zA w.heap.size 1)=some (Y (m:Int))/\W.cell? (zA w.heap.size 2)=some (zL A n cA)/\W.cell? (zA R s.piv.length)=some (zS (bk J s.piv.length) c8 (cp J s.piv.length))/\W.cell? (zA (bk J s.piv.length) c)=some (Y (x:Int))):=fun W f=>
              ⟨(Below.cell f l0).trans z0,(Below.cell f l0).trans z1,(Below.cell f l0).trans z2,(Below.cell f lR).trans yt,(Below.cell f (World.block_lt_of_cell? _ _ Z)).trans Z⟩
             have I:Hid (LS wc wc.drew):=(Below.refl _ _).drew;clear z0 z1 z2 yt Z;refine qbM 17 (LS wc) [(true,0),(true,1),(true,2),(true,3),(true,4),(true,5),(true,6),(true,7),(true,8),(true,9),(true,10),(true,12),(true,13),(true,14),(true,15),(false,11),(false,16)] default U1 U1 (fun _ _ d _ _ h=>by cases d<;>exact h) I.out ?_;simp only[List.map_cons,List.map_nil,List.getD_cons_zero,List.getD_cons_succ]
             repeat (first
              | (refine qcS rfl 29 (.tmp 3) rfl w.heap.size 0 rfl (Ci p m A n cA) _ ag.out Tryz.underlying29 rfl fieldSize ?_
                 go_simp)
              | (apply qcH rfl
                 . intro W f
                   obtain⟨z0,z1,z2,yt,Z⟩:=ad.out W f
                   go_simp
                   rfl
                 go_simp))
             apply qcE rfl
             . go_simp;exact⟨rfl,rfl⟩
             refine(bm.out _ I.out).mono ?_;rintro e w1 ⟨rfl,hb1'⟩;refine⟨_,rfl,hb1',?_⟩;go_simp;apply qcE rfl
             . go_simp;exact⟨rfl,rfl⟩
             refine(cd.out w1 hb1').mono ?_;rintro e w2 ⟨⟨g,rfl,hr2⟩,hb2⟩;have ak:wc.heap.size<=w1.heap.size:=Below.size hb1';have v:Below wc.heap.size wc w2:=Below.trans hb1' (hb2.mono ak);refine⟨_,rfl,v,?_⟩;go_simp;refine qeJ ?_;(try simp only[List.drop_succ_cons,List.drop_zero]);have c7:=(ad.out w2 v).2.2.2.1;have cw:=(v.frozen (p:=(zA R s.piv.length)) lR).trans ft;have HY:=zH (ae.out w2 g v (hr2.base (by have:=hr2.lt.1;omega)));clear ft v hb2 hr2;go_wp2_with fail;go_meet;exact⟨rfl,HY.out⟩
          case rest =>
           obtain⟨rfl,ci,a7⟩:=hcut;have bo:Hid (RelRC w p m A n cA R cR O c b rows.length (zL U s.piv.length V) s.piv (Y ((0:Nat):Int)) wc):=⟨0,ci,Nat.zero_le _,rfl,a7⟩;clear a7 yt Z C ce T hx aj bc bd;go_wp2_with fail;go_loopw [13] (fun v13 wr=>RelRC w p m A n cA R cR O c b rows.length (zL U s.piv.length V) s.piv v13 wr) (fun v13 _=>rows.length-(intOf v13).toNat);case atStart=>exact bo.out
           case round =>
            obtain⟨i,q,hi,rfl,E⟩:=hrel;have z:=zH E;clear bo;by_cases ab:i<rows.length
            . have S := G3.out i hi;have yi:=E.hd S ab;have yt:=E.hd S B;have Z:=E.en S ab ac;have hx:=S.at_ ab ac;have P:=zH (S.row ab);have a0:=zH (S.row B);have an:=(aw.out.neg _ hx).2;have N:Hid (i=s.piv.length\/at2 (clearGo O c s.piv.length b i) i c=0->clearGo O c s.piv.length b (i+1)=clearGo O c s.piv.length b i):=clear_stay;have ai:Hid (i≠s.piv.length->at2 (clearGo O c s.piv.length b i) i c≠0->clearGo O c s.piv.length b (i+1)=(clearGo O c s.piv.length b i).set i (addRow O ((clearGo O c s.piv.length b i).getD i []) (O.neg (at2 (clearGo O c s.piv.length b i) i c)) ((clearGo O c s.piv.length b i).getD s.piv.length []))):=clear_turn;have af:Hid (∀ wx,(∃ H,ES w p m A n cA R cR (clearGo O c s.piv.length b (i+1)) rows.length (zL U s.piv.length V) s.piv H wx)->RelRC w p m A n cA R cR O c b rows.length (zL U s.piv.length V) s.piv (Y ((i:Int)+1)) wx):=fun wx ⟨H,h⟩=>⟨i+1,H,U0,gn,h⟩;clear E S;generalize clearGo O c s.piv.length b i=o at *;generalize clearGo O c s.piv.length b (i+1)=bh at *;generalize at2 o i c=y at *;have i0:(0:Int)<=(i:Int):=U0;have i1:(i:Int)<(rows.length:Int):=U0;by_cases a3:i=s.piv.length
              . (have bx : ((i : Int) != (s.piv.length : Int)) = false:=by rw[a3];simp);have aa:=zH (N.out (.inl a3));clear a3 yi yt Z;go_wp2_with fail;go_roundw;case rel=>exact af.out _ ⟨q,by rw[aa.out];exact z.out⟩
                case measure=>exact mE
              . (have bx : ((i : Int) != (s.piv.length : Int)) = true := by rw [bne_iff_ne];omega);by_cases av:y=0
                . (have co : ((y : Int) != 0) = false:=by rw[av];rfl);have aa:=zH (N.out (.inr av));clear av;go_wp2_with fail;go_roundw;case rel=>exact af.out _ ⟨q,by rw[aa.out];exact z.out⟩
                  case measure=>exact mE
                . (have co : ((y : Int) != 0) = true := by rw [bne_iff_ne];omega);have aa:=zH (ai.out a3 av);have z0:=z.out.1.c0;have z1:=z.out.1.c1;have z2:=z.out.1.c2;have fi:=z.out.2.1.frozen i;have l0:w.heap.size<wr.heap.size:=z.out.1.2.1;have lR:R<wr.heap.size:=z.out.2.1.lt.2;have cx:w.heap.size+1<=R:=z.out.2.1.lt.1;(have bp:Hid (∀ W,LS wr W->zC 150 #[Ch p m A n cA,Y y] W fun e w'=>e=.returned (Y ((O.neg y:Nat):Int))/\LS wr w'):=fun W f=>by have Q:Below w.heap.size w W:=z.out.1.bl.trans (Below.mono f (Nat.le_of_lt l0));have:=(ay.out W Q).neg hx cA;rw [HO.out] at this;exact this.mono fun e w' ⟨he,hb⟩=>⟨he,Below.trans f (hb.mono (Below.size f))⟩);have ag:Hid (∀ W,LS wr W->W.rangeAt w.heap.size 0 (Ci p m A n cA)):=fun W f=>(z.out.1.grow f).range;(have ap:(addRow O (o.getD i []) (O.neg y) (o.getD s.piv.length [])).length=c8:=by rw [qbU _ _ _ _ (by rw [P.out.1,a0.out.1]),P.out.1]);(have bi:Hid (∀ W,Below wr.heap.size wr W->zC 42 #[Ch p m A n cA,zS (bk q i) c8 (cp q i),Y ((O.neg y:Nat):Int),zS (bk q s.piv.length) c8 (cp q s.piv.length)] W fun e w'=>(∃ g,e=.returned (zS g c8 c8)/\Row w' W.heap.size g c8 (nz (addRow O (o.getD i []) (O.neg y) (o.getD s.piv.length []))))/\Below W.heap.size W w'):=fun W f=>by have Q:=z.out.1.bl.trans (f.mono (Nat.le_of_lt l0));have:=raddto_c p m md A n cA (O.neg y) (o.getD i []) (o.getD s.piv.length []) (zO (bk q i)) (zO (bk q s.piv.length)) (cp q i) (cp q s.piv.length) W (ay.out W Q) an P.out.2 a0.out.2 (by rw [P.out.1,a0.out.1]) ((z.out.ints ab).keep f |>.more f.size) ((z.out.ints B).keep f |>.more f.size) (by rw [P.out.1];omega);rw [P.out.1,HO.out] at this;exact this);(have ae:Hid (∀ (W:World) (g:Nat),Below wr.heap.size wr W->Row W wr.heap.size g c8 (nz (addRow O (o.getD i []) (O.neg y) (o.getD s.piv.length [])))->∃ H,ES w p m A n cA R cR bh rows.length (zL U s.piv.length V) s.piv H (W.setCell (zA R i) (zS g c8 c8))):=fun W g f hr=>by have:=z.out.put f ab hr;rw [ap,<- aa.out] at this;exact ⟨_,this⟩);clear ap an hx aa N ai P a0 av;generalize O.neg y=ny at *;generalize addRow O (o.getD i []) ny (o.getD s.piv.length [])=ar at *;go_upto_region 18 with fail
                  have ad:Hid (∀W,LS wr W->W.cell? (zA w.heap.size 0)=some (Y (p:Int))/\W.cell? (zA w.heap.size 1)=some (Y (m:Int))/\W.cell? (zA w.heap.size 2)=some (zL A n cA)/\W.cell? (zA R i)=some (zS (bk q i) c8 (cp q i))/\W.cell? (zA R s.piv.length)=some (zS (bk q s.piv.length) c8 (cp q s.piv.length))/\W.cell? (zA (bk q i) c)=some (Y (y:Int))):=fun W f=>
                   ⟨(Below.cell f l0).trans z0,(Below.cell f l0).trans z1,(Below.cell f l0).trans z2,(Below.cell f lR).trans yi,(Below.cell f lR).trans yt,(Below.cell f (World.block_lt_of_cell? _ _ Z)).trans Z⟩
                  have I:Hid (LS wr wr.drew):=(Below.refl _ _).drew;clear z0 z1 z2 yi yt Z;refine qbM 21 (LS wr) [(true,0),(true,1),(true,2),(true,3),(true,4),(true,5),(true,6),(true,7),(true,8),(true,9),(true,10),(true,11),(true,12),(true,13),(true,14),(true,16),(true,17),(true,18),(true,19),(false,15),(false,20)] default U1 U1 (fun _ _ d _ _ h=>by cases d<;>exact h) I.out ?_;simp only[List.map_cons,List.map_nil,List.getD_cons_zero,List.getD_cons_succ]
                  repeat (first
                   | (refine qcS rfl 29 (.tmp 3) rfl w.heap.size 0 rfl (Ci p m A n cA) _ ag.out Tryz.underlying29 rfl fieldSize ?_
                      go_simp)
                   | (apply qcH rfl
                      . intro W f
                        obtain⟨z0,z1,z2,yi,yt,Z⟩:=ad.out W f
                        go_simp
                        rfl
                      go_simp))
                  apply qcE rfl
                  . go_simp;exact⟨rfl,rfl⟩
                  refine(bp.out _ I.out).mono ?_;rintro e w1 ⟨rfl,hb1'⟩;refine⟨_,rfl,hb1',?_⟩;go_simp;apply qcE rfl
                  . go_simp;exact⟨rfl,rfl⟩
                  refine(bi.out w1 hb1').mono ?_;rintro e w2 ⟨⟨g,rfl,hr2⟩,hb2⟩;have ak:wr.heap.size<=w1.heap.size:=Below.size hb1';have v:Below wr.heap.size wr w2:=Below.trans hb1' (hb2.mono ak);refine⟨_,rfl,v,?_⟩;go_simp;refine qeJ ?_;(try simp only[List.drop_succ_cons,List.drop_zero]);have c6:=(ad.out w2 v).2.2.2.1;have ct:=(v.frozen (p:=(zA R i)) lR).trans fi;have HY:=zH (af.out _ (ae.out w2 g v (hr2.base (by have:=hr2.lt.1;omega))));clear fi v hb2 hr2;go_wp2_with fail;go_roundw;case rel=>exact HY.out
                  case measure=>exact mE
            . (obtain rfl : i = rows.length:=by omega);have cr:=cl.1;have c4:w.heap.size+1<=wr.heap.size:=E.1.2.1;have bq:Hid (∀(W:World)(v':Value),w.heap.size+1<=W.heap.size->W.ownsRow (w.heap.size+1) 3 1 v' (s.piv.length+1) ((nz s.piv).map (Value.int .i64)++[Y (c:Int)])->(wr.alloc (.cells #[Y (c:Int)] 3)).grownBy W (Value.slice U s.piv.length V).ownBlock->(v'.ownBlock=(Value.slice U s.piv.length V).ownBlock\/v'.ownBlock=some (wr.heap.size+1))->∃(a1:Option Addr)(a2:Nat),v'=zL a1 (s.piv++[c]).length a2/\ES w p m A n cA R cR (clearGo O c s.piv.length b rows.length) rows.length (zL a1 (s.piv++[c]).length a2) (s.piv++[c]) q W):=fun W v' _ h1 h2 h3=>z.out.push h1 h2 h3;have b1:=E.2.2.1.1;clear E;have br:=zH b1;clear b1;go_wp2_with (at_builtin;refine wpList_append_own_at _ rfl (.tmp 129) (.tmp 131) 23 rfl (w.heap.size+1) 3 cq _ 1 8 Tryz.underlying23 HI.out cf.out cg.out ch.out rfl dc (zL U s.piv.length V) s.piv.length ((nz s.piv).map (Value.int .i64)) rfl (World.ownsRow.alloc br.out _) (zA wr.heap.size 0) 1 1 [Y (c:Int)] rfl rfl ?d1 ?d2 ?d3 ?d4 ?d5 ?_);case d1=>exact World.news_of_block (cs:=#[Y (c:Int)]) (t:=3) (fr:=(0,0)) (heap_alloc_new wr _)
              case d2=>intro u hu;simp at hu;subst hu;rfl
              case d3=>unfold maxLen;omega
              case d4=>omega
              case d5=>simp;omega
              intro v' w3 ao al _ bt;obtain⟨a1,a2,rfl,a8⟩:=bq.out w3 v' (by have:=al.size;simp at this;omega) ao al (by simpa using bt);have b8:=zH a8;clear a8 ao al bt bq br;go_wp2_with fail;go_roundg (c8-(c+1));case measure=>omega
              case rel=>exact⟨c+1,q,a1,a2,U0,gn,by rw[a9.out,List.length_append];go_num,by rw[a9.out],by rw[a9.out];exact b8.out⟩
    . have L:Hid (elGo O rows c8=s):=bb.out U0;go_wp2_with fail;go_ret2;exact⟨⟨R,cR,U,V,bs,by rw[L.out];rfl,by rw[L.out];exact K.out.2.1,by rw[L.out];exact ints_own K.out.2.2.1.1 rfl⟩,K.out.1.bl⟩
  . (have cj:c=c8:=by omega);(have L:Hid (elGo O rows c8=s):=by rw[<- cj];exact cm);go_wp2_with fail;go_ret2;exact⟨⟨R,cR,U,V,bs,by rw[L.out];rfl,by rw[L.out];exact K.out.2.1,by rw[L.out];exact ints_own K.out.2.2.1.1 rfl⟩,K.out.1.bl⟩
theorem rsame_c(zs R:List Int)(A T:Option Addr)(c V:Nat)(w:World)(U:IntsAt w w.heap.size A zs)(S:IntsAt w w.heap.size T R)(W:zs.length<=9223372036854775807):
 zC 88 #[zL A zs.length c,zL T R.length V] w (Quiet (.bool (decide (zs=R))) w):=by
 have C:=zH U;have m:=zH S;clear U S;by_cases d:zs.length=R.length
 . have r : Hid (∀ k,k < zs.length -> zs.getD k 0 ≠ R.getD k 0 -> decide (zs = R) = false) := fun k u h => decide_eq_false (fun e => h (by rw [e]));have i:Hid (zs.take zs.length=R.take zs.length->decide (zs=R)=true):=fun h=>decide_eq_true (by rw [List.take_length,d,List.take_length] at h;exact h);have t:Hid (∀ k,k<zs.length->zs.take k=R.take k->zs.getD k 0=R.getD k 0->zs.take (k+1)=R.take (k+1)):=fun k u h he=>qcQ 0 u U0 h he;have v:((zs.length:Int) != (R.length:Int))=false:=so;have J:R.length<=zs.length:=U0;have B:zs.length<=R.length:=U0;clear d;go_enter Tryz.func88,Tryz.ntmps88;go_wp2_with fail;go_loopw [5] (fun v13 wr=>RelEq zs R w v13 wr) (fun v13 _=>zs.length-(intOf v13).toNat);case atStart=>exact ⟨0,0,U0,rfl,U2,rfl⟩
   case round =>
    obtain⟨k,n,u,rfl,l,rfl⟩:=hrel;have j:=zH l;clear l;by_cases f:k<zs.length
    . obtain ⟨b,o,rfl,L,M⟩ := C.out.at_ f;obtain ⟨K,Q,rfl,H,I⟩:=m.out.at_ (k:=k) U0;have D:=zH (r.out k f);have E:=zH (t.out k f j.out);generalize zs.getD k 0=z at *;generalize R.getD k 0=y at *;have N:(0:Int)<=(k:Int):=U0;have O:(k:Int)<(zs.length:Int):=U0;have P:(k:Int)<(R.length:Int):=U0;by_cases g:z=y
      . (have x : (z != y) = false:=by simp[g]);have s:=zH (E.out g);clear g;go_upto_region 6 with fail;go_quiet (fail);go_wp2_with fail;go_roundw;case rel=>exact⟨k+1,n+nq,U0,gn,s.out,rfl⟩
        case measure=>exact mE
      . (have x:(z != y)=true:=by simp[g]);have q:=zH (D.out g);clear g;go_upto_region 6 with fail;go_quiet (fail);go_wp2_with fail;go_ret;exact⟨qaN q.out.symm,n+nq,df⟩
    . (obtain rfl:k=zs.length:=by omega);have p:=zH (i.out j.out);go_wp2_with fail;go_ret;exact⟨qaN p.out.symm,n,rfl⟩
 . (have v:((zs.length:Int) != (R.length:Int))=true:=by simp;omega);have p:Hid (decide (zs=R)=false):=decide_eq_false (fun e=>d (by rw[e]));clear d;go_enter Tryz.func88,Tryz.ntmps88;go_wp2_with fail;go_ret;exact⟨qaN p.out.symm,0,rfl⟩
theorem rsamerows_c(zs ys:List (List Int))(A A':Option Addr)(c c':Nat)(w:World)(hA:RowsAt w w.heap.size A zs)(aa:RowsAt w w.heap.size A' ys)(hl:zs.length<=9223372036854775807)(hr:∀ k,k<zs.length->(zs.getD k []).length<=9223372036854775807):
 zC 38 #[zL A zs.length c,zL A' ys.length c'] w (Quiet (.bool (decide (zs=ys))) w):=by
 have R:=zH hA;have D:=zH aa;have S:=zH hr;clear hA aa hr;by_cases l:zs.length=ys.length
 . have J : Hid (∀ k,k < zs.length -> zs.getD k [] ≠ ys.getD k [] -> decide (zs = ys) = false) := fun k N h => decide_eq_false (fun e => h (by rw [e]));have u:Hid (zs.take zs.length=ys.take zs.length->decide (zs=ys)=true):=fun h=>decide_eq_true (by rw [List.take_length,l,List.take_length] at h;exact h);have M:Hid (∀ k,k<zs.length->zs.take k=ys.take k->zs.getD k []=ys.getD k []->zs.take (k+1)=ys.take (k+1)):=fun k N h he=>qcQ [] N U0 h he;have O:((zs.length:Int) != (ys.length:Int))=false:=so;have V:ys.length<=zs.length:=U0;have Q:zs.length<=ys.length:=U0;clear l;go_enter Tryz.func38,Tryz.ntmps38;go_wp2_with fail;go_loopw [5] (fun v17 wr=>RelEq zs ys w v17 wr) (fun v17 _=>zs.length-(intOf v17).toNat);case atStart=>exact ⟨0,0,U0,rfl,U2,rfl⟩
   case round =>
    obtain⟨k,n,N,rfl,z,rfl⟩:=hrel;have v:=zH z;clear z;by_cases m:k<zs.length
    . obtain ⟨b,o,B,C,rfl,hb,hc,P⟩ := R.out.at_ m;obtain ⟨b',o',d,g,rfl,T,U,y⟩:=D.out.at_ (i:=k) U0;have H:=zH (J.out k m);have K:=zH (M.out k m v.out)
      have f:Hid (∀n,zC 88 #[zL B (zs.getD k []).length C,zL d (ys.getD k []).length g] (w.drewN n) (Quiet (.bool (decide (zs.getD k []=ys.getD k []))) (w.drewN n))):=fun n=>
       rsame_c (zs.getD k []) (ys.getD k []) B d C g (w.drewN n) (P.keep (qaB (Below.refl _ _) n)) (y.keep (qaB (Below.refl _ _) n)) (S.out k m)
      clear P y;have k0:(0:Int)<=(k:Int):=U0;have k1:(k:Int)<(zs.length:Int):=U0;have k2:(k:Int)<(ys.length:Int):=U0;by_cases t:zs.getD k []=ys.getD k []
      . have L := zH (K.out t);have x:Hid (decide (zs.getD k []=ys.getD k [])=true):=decide_eq_true t;clear t H K;(have p:Hid (∀ W,SDrew w W->zC 88 #[zL B (zs.getD k []).length C,zL d (ys.getD k []).length g] W fun e w'=>e=.returned (.bool true)/\SDrew w w'):=fun W ⟨r,hW⟩=>by subst hW;refine (f.out r).mono ?_;rintro e w' ⟨he,s,rfl⟩;exact ⟨by rw [he,x.out],r+s,U9⟩);clear f x;generalize (zs.getD k []).length=X at *;generalize (ys.getD k []).length=Z at *;go_upto_region 6 with fail;refine qaD (SDrew w) U1 U1 ⟨n+1,by rw [<- World.drewN_drewN];rfl⟩ ?_
        repeat (first
         | (apply qaJ rfl
            . intro W j
              obtain⟨r,rfl⟩:=j
              go_simp
              rfl
            go_simp)
         | (apply qaO rfl
            . intro W j
              go_simp
              exact⟨rfl,rfl⟩
            . intro W j
              exact p.out W j
            go_simp))
        refine qaE ?_;intro w2 q;obtain⟨s,rfl⟩:=q;go_wp2_with fail;go_roundw;case rel=>exact⟨k+1,s,U0,gn,L.out,rfl⟩
        case measure=>exact mE
      . have I := zH (H.out t);have x:Hid (decide (zs.getD k []=ys.getD k [])=false):=decide_eq_false t;clear t H K;(have p:Hid (∀ W,SDrew w W->zC 88 #[zL B (zs.getD k []).length C,zL d (ys.getD k []).length g] W fun e w'=>e=.returned (.bool false)/\SDrew w w'):=fun W ⟨r,hW⟩=>by subst hW;refine (f.out r).mono ?_;rintro e w' ⟨he,s,rfl⟩;exact ⟨by rw [he,x.out],r+s,U9⟩);clear f x;generalize (zs.getD k []).length=X at *;generalize (ys.getD k []).length=Z at *;go_upto_region 6 with fail;refine qaD (SDrew w) U1 U1 ⟨n+1,by rw [<- World.drewN_drewN];rfl⟩ ?_
        repeat (first
         | (apply qaJ rfl
            . intro W j
              obtain⟨r,rfl⟩:=j
              go_simp
              rfl
            go_simp)
         | (apply qaO rfl
            . intro W j
              go_simp
              exact⟨rfl,rfl⟩
            . intro W j
              exact p.out W j
            go_simp))
        refine qaE ?_;intro w2 q;obtain⟨s,rfl⟩:=q;go_wp2_with fail;go_ret;exact⟨qaN I.out.symm,s,rfl⟩
    . (obtain rfl:k=zs.length:=by omega);have E:=zH (u.out v.out);go_wp2_with fail;go_ret;exact⟨qaN E.out.symm,n,rfl⟩
 . (have O:((zs.length:Int) != (ys.length:Int))=true:=by simp;omega);have E:Hid (decide (zs=ys)=false):=decide_eq_false (fun e=>l (by rw[e]));clear l;go_enter Tryz.func38,Tryz.ntmps38;go_wp2_with fail;go_ret;exact⟨qaN E.out.symm,0,rfl⟩
theorem elGo_nil(O:Ops):∀ c,elGo O [] c=⟨[],[]⟩
 |0=>rfl
 |c + 1=>by
   unfold elGo
   rw[elGo_nil O c]
   rfl
theorem reliminate_nil(p m:Int)(A:Option Addr)(n g:Nat)(h:Option Addr)(c2:Nat)(f:Int)(i:1<=f)(w:World):zC 87 #[Ch p m A n g,zL h 0 c2,Y f] w fun e w'=>e=.returned (.tuple #[zL none 0 0,zL none 0 0])/\Below w.heap.size w w':=by
 have c:=zH (qbK w p m A n g);go_enter Tryz.func87,Tryz.ntmps87;go_upto_region 1 with fail;generalize w.alloc (Ce p m A n g)=d at *;have b:=zH (rcopy_nil h c2 d);go_wp2_with (go_at_call 147;(with_reducible refine b.out.mono ?_);rintro e w' ⟨rfl,rfl⟩);go_loop [9,10,11] (fun v9 v10 v11=>v11=Y 0/\v10=Y 0/\v9=zL none 0 0) (fun _ _ _=>0);case atStart=>exact⟨rfl,rfl,rfl⟩
 case round=>obtain⟨rfl,rfl,rfl⟩:=hrel;go_wp2_with fail;go_ret2;exact⟨rfl,c.out.bl⟩
theorem rcanon_c(p m:Nat)(md:List Nat)(A:Option Addr)(n L:Nat)(rows:List (List Nat))(N:Option Addr)(c2 K:Nat)(w:World)(S:RFld p m md A n w.heap.size w)(T:∃ l,FT p m md l)(M:Grid (p ^ m) rows.length K rows)(Q:RowsAt w w.heap.size N (nzs rows))(P:1<=K)(V:K<=256)(U:rows.length<=256):
 zC 37 #[Ch p m A n L,zL N rows.length c2,Y K] w fun e w'=>(∃(A':Option Addr)(ck:Nat)(VA:Option Addr)(c3:Nat),e=.returned (.tuple #[zL A' (canonM (refOps p m md) rows K).length ck,zL VA (elGo (refOps p m md) rows K).piv.length c3])/\RowsUp w' w.heap.size A' (nzs (canonM (refOps p m md) rows K))/\IntsAt w' w'.heap.size VA (nz (elGo (refOps p m md) rows K).piv))/\Below w.heap.size w w':=by
 have o:=zH (qbK w p m A n L);by_cases b:rows.length=0
 . (have s:canonM (refOps p m md) rows K=[]:=by have:rows=[]:=List.length_eq_zero_iff.1 b;subst this;unfold canonM;rw[elGo_nil];rfl);(have u:(elGo (refOps p m md) rows K).piv=[]:=by have:rows=[]:=List.length_eq_zero_iff.1 b;subst this;rw[elGo_nil]);rw[s,u,b];clear S T M Q s u U b;go_enter Tryz.func37,Tryz.ntmps37;go_upto_region 1 with fail;generalize w.alloc (Ce p m A n L)=z at *;have f:=zH o.out.range;have v:=zH (reliminate_nil p m A n L N c2 K U0 z);go_wp2_with (refine wpList_load_mid rfl 29 (.tmp 3) rfl w.heap.size 0 rfl (Ci p m A n L) _ f.out Tryz.underlying29 rfl fieldSize ?_);(with_reducible refine v.out.mono ?_);rintro e E ⟨rfl,hb1⟩;have k:=zH (o.out.grow hb1);clear hb1;go_wp2_with fail;go_ret2;exact⟨⟨none,0,none,0,rfl,(fun h=>by simp[nzs] at h),fun h=>by simp[nz] at h⟩,k.out.bl⟩
 . have v : Hid (∀ W,Below w.heap.size w W -> zC 87 #[Ch p m A n L,zL N rows.length c2,Y K] W (RElPost W (refOps p m md) rows K)) := fun W hW =>
    reliminate_c p m md A n L rows N c2 K W ((S.keep hW).more hW.size) T M ((Q.keep hW).more hW.size) P V U0 U
   have r:=zH (canonM_len (refOps p m md) rows K);have c:=zH (elGo_piv (O:=refOps p m md) rows K);have j:=zH (elGo_len (O:=refOps p m md) rows K);have q:=zH (canonM_getD (refOps p m md) rows K);clear S T M Q b;generalize refOps p m md=O at *;go_enter Tryz.func37,Tryz.ntmps37;go_upto_region 1 with fail;generalize w.alloc (Ce p m A n L)=z at *;have f:=zH o.out.range;go_wp2_with (refine wpList_load_mid rfl 29 (.tmp 3) rfl w.heap.size 0 rfl (Ci p m A n L) _ f.out Tryz.underlying29 rfl fieldSize ?_);(with_reducible refine(v.out z o.out.bl).mono ?_);rintro e E ⟨⟨R,cR,VA,ck,bs,rfl,hgd,hpv⟩,hb1⟩;have x:=zH hpv;have k:=zH (o.out.grow hb1);have y:Hid (RowsUp E w.heap.size (zO R) (nzs (canonM O rows K))):=(hgd.rowsAt (canonM O rows K) (by rw[r.out,j.out];exact c.out.2) (fun i hi=>q.out i (by rw[<- r.out];exact hi))).lower (by have:=o.out.bl.size;omega);have B:(elGo O rows K).piv.length<=rows.length:=c.out.2;obtain⟨cur,t⟩:=qdE hgd.out;have D:rows.length<=cR:=by
    have h:=hgd.out.2;rcases h with⟨P,_⟩|⟨g,H,C,I,_,_,J,_⟩
    . cases P
    . simp only[Value.slice.injEq] at I;have:=j.out;omega
   rw[<- r.out] at B;have d:=zH r.out.symm;clear hb1 hgd hpv r c j q t;rw[d.out];go_wp2_with fail;go_ret2;refine⟨⟨some (zA R 0),cR,VA,ck,?_,y.out,x.out⟩,k.out.bl⟩
   first
    |rfl
    |(rw[d.out];done)
    |(rw[d.out];rfl)
theorem rspcheck_c(p m:Int)(mod:List Int)(Z:Option Addr)(cm:Nat)(X:Int)(zs:List (List Int))(A:Option Addr)(c:Nat)(w:World)(hM:IntsAt w w.heap.size Z mod)(hl:mod.length<=9223372036854775807)(hA:RowsAt w w.heap.size A zs)(aa:zs.length<=9223372036854775807)(h1:1<=X):
 zC 19 #[Ch p m Z mod.length cm,Cy X A zs.length c] w fun e w'=>e=.returned (Y (spZ p m mod X zs))/\Below w.heap.size w w':=by
 have q:=zH (box2_new w p m Z mod.length cm X A zs.length c);have K:=zH hM;have I:=zH hA;clear hM hA;go_enter Tryz.func19,Tryz.ntmps19;go_upto_region 1 with fail;generalize (w.alloc (Ce p m Z mod.length cm)).alloc (Cp X A zs.length c)=O at *;have h:=zH q.out.range;have n:=zH q.out.range1;have N:=zH (rcheck_c p m mod Z cm X zs A c O ((K.out.keep q.out.below).more q.out.below.size) hl ((I.out.keep q.out.below).more q.out.below.size) aa);go_wp2_with (first|(refine wpList_load_mid rfl 29 (.tmp 2) rfl w.heap.size 0 rfl (Ci p m Z mod.length cm) _ h.out Tryz.underlying29 rfl fieldSize ?_)|(refine wpList_load_mid rfl 54 (.tmp 3) rfl (w.heap.size+1) 0 rfl (De X A zs.length c) _ n.out Tryz.underlying54 rfl matSize ?_));(with_reducible refine N.out.mono ?_);rintro e M ⟨rfl,hb1⟩;have b:=zH (q.out.grow hb1);clear hb1 q N h n;clear O;by_cases d:errC p m mod X zs=0
 . rw [d];have g:fieldOK p m mod=true:=by
    unfold errC at d;split at d
    . assumption
    . cases d
   (have D:checkZ (p.toNat^m.toNat) X zs=0:=by unfold errC at d;rw[if_pos g] at d;exact d);obtain⟨E,v,S,T,L⟩:=check_grid D;(have H:shapeM p m mod=true:=by unfold fieldOK at g;rw[Bool.and_eq_true] at g;exact g.1);have s:=shape_is H;have u:=field_ft g;have k:(mdOf m mod).length=m.toNat:=by
    by_cases x:m=1
    . rw[x];simp[mdOf]
    . unfold mdOf;rw[if_neg x,List.length_map];exact s.len x
   have r:canonM (refOps p.toNat m.toNat (mdOf m mod)) (natR zs) X.toNat=canZ p m mod X zs:=(canon_eq (ops_eq u k) v).symm
   have B:Hid (RFld p.toNat m.toNat (mdOf m mod) Z mod.length M.heap.size M):=⟨s.small,k,s.lt,fun h2=>by
    have x:m≠1:=by intro e;rw[e] at h2;exact absurd h2 dc
    exact⟨s.len x,by rw[s.nat x];exact(K.out.keep b.out.below).more b.out.below.size⟩⟩
   have t:=zH (rcanon_c p.toNat m.toNat (mdOf m mod) Z mod.length cm (natR zs) A c X.toNat M B.out ⟨_,u⟩ v (by rw[E];exact(I.out.keep b.out.below).more b.out.below.size) U0 U0 (by rw[natR_len];exact L));rw[natR_len,r,s.p0,s.m0,show((X.toNat:Nat):Int)=X by omega] at t;(have l:Hid (spZ p m mod X zs=if nzs (canZ p m mod X zs)=zs then 0 else 5):=by show _=_;unfold spZ;rw[if_neg (by simp[d])]);have o:=zH (canZ_rows d);have y:=zH (canZ_len d);clear d g D E v H s u k r B K;generalize canZ p m mod X zs=P at *;have h:=zH b.out.range;have Q:=b.out.c0;have R:=b.out.c1;go_wp2_with (refine wpList_load_mid rfl 29 (.tmp 2) rfl w.heap.size 0 rfl (Ci p m Z mod.length cm) _ h.out Tryz.underlying29 rfl fieldSize ?_);(with_reducible refine t.out.mono ?_);rintro e V ⟨⟨A',ck,VA,c3,rfl,hra,_⟩,hb2⟩;have j:=zH (b.out.grow hb2);have i:=zH (rsamerows_c (nzs P) zs A' A ck c V hra.rowsAt ((I.out.keep j.out.below).more j.out.below.size) (by have:=y.out;omega) o.out);rw[nzs_len] at i;have C:=j.out.c1;clear hra hb2 Q R t o y b h I;by_cases f:nzs P=zs
   . rw[decide_eq_true f] at i;(have z:Hid (spZ p m mod X zs=0):=by show _=_;rw[l.out,if_pos f]);clear f l;go_wp2_with fail;(with_reducible refine i.out.mono ?_);rintro e W ⟨rfl,n4,rfl⟩;have J:=zH (qaB j.out.below n4);clear C;go_wp2_with fail;go_ret;exact⟨qaG z.out.symm,J.out⟩
   . rw[decide_eq_false f] at i;(have z:Hid (spZ p m mod X zs=5):=by show _=_;rw[l.out,if_neg f]);clear f l;go_wp2_with fail;(with_reducible refine i.out.mono ?_);rintro e W ⟨rfl,n4,rfl⟩;have J:=zH (qaB j.out.below n4);clear C;go_wp2_with fail;go_ret;exact⟨qaG z.out.symm,J.out⟩
 . (have z:Hid (spZ p m mod X zs=errC p m mod X zs):=by show _=_;unfold spZ;rw[if_pos d]);(have U:(errC p m mod X zs != 0)=true:=by rw[bne_iff_ne];exact d);clear d;go_wp2_with fail;go_ret;exact⟨qaG z.out.symm,b.out.below⟩
theorem rcodecheck_c(p m:Int)(mod:List Int)(z:Option Addr)(B:Nat)(N:Int)(zs:List (List Int))(A:Option Addr)(c:Nat)(w:World)(E:IntsAt w w.heap.size z mod)(H:mod.length<=9223372036854775807)(D:RowsAt w w.heap.size A zs)(C:zs.length<=9223372036854775807):
 zC 8 #[Ck p m z mod.length B N A zs.length c] w fun e w'=>e=.returned (Y (codeZ p m mod N zs))/\Below w.heap.size w w':=by
 have h:Hid (SBoxC w (Ca p m z mod.length B N A zs.length c) (w.alloc (Cf p m z mod.length B N A zs.length c))):=
  ⟨heap_alloc_new _ _,(Below.refl _ _).alloc (Nat.le_refl _) _,U2⟩
 have j:=zH E;have q:=zH D;clear E D;go_enter Tryz.func8,Tryz.ntmps8;go_upto_region 1 with fail;generalize w.alloc (Cf p m z mod.length B N A zs.length c)=s at *;have d:=zH h.out.range3;have r:=zH (rfcheck_c p m mod z B s ((j.out.keep h.out.2.1).more h.out.2.1.size) H);go_wp2_with (refine wpList_load_mid rfl 29 (.tmp 4) rfl w.heap.size 0 rfl (Ci p m z mod.length B) _ d.out Tryz.underlying29 rfl fieldSize ?_);(with_reducible refine r.out.mono ?_);rintro e o ⟨rfl,hb1⟩;have b:=zH (h.out.grow hb1);clear hb1 h r d;clear s;cases hok:fieldOK p m mod
 . (have f:Hid (codeZ p m mod N zs=1):=by show _=_;unfold codeZ;rw[if_pos hok]);have i:errF false=1:=rfl;rw[i];clear hok i;go_wp2_with fail;go_ret;exact⟨qaG f.out.symm,b.out.2.1⟩
 . have i : errF true = 0 := rfl;rw [i];have v:o.cell? (zA w.heap.size 3)=some (Y N):=cell_of_row _ _ 3 _ _ _ b.out.1;have x:o.cell? (zA w.heap.size 4)=some (zL A zs.length c):=cell_of_row _ _ 4 _ _ _ b.out.1;clear i;by_cases t:N<1
   . (have f:Hid (codeZ p m mod N zs=4):=by(have g:lengthZ N=4:=by unfold lengthZ;rw[if_pos U0]);show _=_;unfold codeZ;rw[if_neg (by simp[hok]),if_pos (by rw[g];decide)]);clear hok;go_wp2_with fail;go_ret;exact⟨qaG f.out.symm,b.out.2.1⟩
   . by_cases u : 64 < N
     . (have f:Hid (codeZ p m mod N zs=4):=by(have g:lengthZ N=4:=by unfold lengthZ;rw[if_pos U0]);show _=_;unfold codeZ;rw[if_neg (by simp[hok]),if_pos (by rw[g];decide)]);clear hok;go_wp2_with fail;go_ret;exact⟨qaG f.out.symm,b.out.2.1⟩
     . (have f:Hid (codeZ p m mod N zs=spZ p m mod N zs):=by(have n:lengthZ N=0:=by unfold lengthZ;rw[if_neg U0]);show _=_;unfold codeZ;rw[if_neg (by simp[hok]),if_neg (by rw[n];decide)]);have k:=zH (rspcheck_c p m mod z B N zs A c o ((j.out.keep b.out.2.1).more b.out.2.1.size) H ((q.out.keep b.out.2.1).more b.out.2.1.size) C U0);have d:=zH b.out.range3;clear hok j q;go_wp2_with (refine wpList_load_mid rfl 29 (.tmp 18) rfl w.heap.size 0 rfl (Ci p m z mod.length B) _ d.out Tryz.underlying29 rfl fieldSize ?_);(with_reducible refine k.out.mono ?_);rintro e y ⟨rfl,hb2⟩;have l:=zH (b.out.grow hb2);clear hb2;go_wp2_with fail;go_ret;exact⟨qaG f.out.symm,l.out.2.1⟩
end Go.Proofs.YtndipkplnkfoeaaGreat
