/- Parts of the proof. -/
import Derived.Test.YtndipkplnkfoeaaGreatR29
set_option maxRecDepth 100000
set_option maxHeartbeats 8000000
namespace Go.Proofs.YtndipkplnkfoeaaGreat
open Go.RowKit Pln
def ThreeOk:Prop:=∀W:World,zC 5 #[] W fun e w'=>e=.returned (.bool true)/\Below W.heap.size W w'
theorem form_code{d:StD}(h:formZ d=0):codeZ d.p d.m d.mod d.n d.gen=0:=by
 unfold formZ at h;split at h
 . rename_i hz;exact absurd h hz
 . rename_i hz;exact Classical.byContradiction hz
def LocPost(w:World)(e:Ending)(w':World):Prop:=e=.returned (.bool true)/\Below w.heap.size w w'
def RelLrG(w:World)(cs:List Value)(r:Int)(rl:List Nat)(v10 v11:Value)(wr:World):Prop:=
 SB w w.heap.size cs wr/\∃(j:Nat)(b:Bool),j<=rl.length/\v11=Y j/\v10=.bool b/\(b=true->∃t:Nat,t∈rl/\r=(t:Int))
def LrSG(w:World)(cs:List Value)(br j t:Nat)(W:World):Prop:=SB w w.heap.size cs W/\W.cell? (zA br j)=some (Y (t:Int))
def RelLqG(w:World)(cs:List Value)(ps:List StD)(v12:Value)(wr:World):Prop:=
 SB w w.heap.size cs wr/\∃j:Nat,j<=ps.length/\v12=Y j/\∀(i:Nat)(p:StD),i<j->ps[i]?=some p->TrueOk p
def WordOk(s:StD)(msg:List Nat):Prop:=Dv.wt (cwO s.p.toNat s.m.toNat (mdOf s.m s.mod) s.n.toNat (natR s.gen) msg)=0\/s.low<=(Dv.wt (cwO s.p.toNat s.m.toNat (mdOf s.m s.mod) s.n.toNat (natR s.gen) msg):Int)
theorem local_g{X:World->Nat->StD->List Value->Prop}(hX:StX X)(P:StD->List StD->Prop)(np:Int->Nat)(rl:List Nat)(dz:rl.length<=10)(h3:ThreeOk)(ct:∀ (r:Nat) (W:World),r∈rl->zC 9 #[Y (r:Int)] W fun e w'=>e=.returned (Y (np (r:Int):Int))/\W=w')(hP:∀ s ps,P s ps->ps.length=np s.rule)(cf:∀ (s:StD) (ps:List StD) (msg:List Nat),formZ s=0->(∀ p∈ps,formZ p=0)->(∀ p∈ps,TrueOk p)->P s ps->msg.length=(natR s.gen).length->(∀ x∈msg,x<s.p.toNat ^ s.m.toNat)->WordOk s msg)(ds:List StD)(A:Option Addr)(c:Nat)(i:Int)(zs:List Int)(Az:Option Addr)(cz br cr:Nat)(w:World)(hA:StsX X w w.heap.size A ds)(hk:∀ d∈ds,d.ok)(hl:ds.length<=maxLen)(hz:IntsAt w w.heap.size Az zs)(dy:zs.length<=maxLen)(cg:br<w.heap.size)(cq:∀ (j r:Nat),rl[j]?=some r->w.cell? (zA br j)=some (Y (r:Int)))(cm:∀ (k:Nat) (hk:k<ds.length) (A:Option Addr) (c:Nat) (W:World),StsX X W W.heap.size A ds->ds.length<=1000->(∃ t:Nat,t∈rl/\(ds[k]'hk).rule=(t:Int))->zC 7 #[zL A ds.length c,Y k] W (AccPost W ds k P)):
 zC 4 #[zL A ds.length c,Y i,zL Az zs.length cz,zS br rl.length cr] w (LocPost w):=by
 have HA:=zH hA;have HK:=zH hk;have HZ:=zH hz;have bd:=zH cq;have a7:=zH cf;have N:=zH hX;have bh:=zH ct;have ba:=zH hP;have aj:=zH cm;have bn:maxLen=9223372036854775807:=rfl;rw[bn] at hl dy;have dl:=zH hl;have H3:=zH (h3 w);clear hA hk hz cq h3 cf hX ct hP cm;go_enter Tryz.func4,Tryz.ntmps4;go_wp2_with fail;(with_reducible refine H3.out.mono ?_);rintro e w1 ⟨rfl,hb1⟩;have ad:=zH hb1;clear hb1 H3;have HF:=zH (few_c ds A c w1 (((HA.out.sts N.out).keep ad.out).more' ad.out.size) HK.out hl);go_wp2_with fail;(with_reducible refine HF.out.mono ?_);rintro e v ⟨b0,rfl,hb2,hl12⟩;have f:=zH (ad.out.trans (hb2.mono ad.out.size));clear hb2 HF ad;clear w1;cases b0
 . go_wp2_with fail;go_ret;exact⟨rfl,f.out⟩
 replace hl12:=hl12 rfl;by_cases i0:i<0
 . go_wp2_with fail;go_ret;exact⟨rfl,f.out⟩
 by_cases i1:(ds.length:Int)<=i
 . go_wp2_with fail;go_ret;exact⟨rfl,f.out⟩
 obtain⟨k,rfl⟩:∃k:Nat,i=k:=⟨i.toNat,U0⟩;have K:k<ds.length:=U0;have k0:(0:Int)<=(k:Int):=U0;have k1:(k:Int)<(ds.length:Int):=U0;obtain⟨b,o,dm,rfl,dq,bv,b1⟩:=(HA.out.keep N.out f.out).at_ K;have c3:=N.out.stc b1;clear b1;have cy:(ds[k]'K).ok:=HK.out _ (List.getElem_mem K);have bw:ds[k]?=some (ds[k]'K):=List.getElem?_eq_getElem K
 have ao:Hid ((∃t:Nat,t∈rl/\(ds[k]'K).rule=(t:Int))->∀W:World,Below w.heap.size w W->zC 7 #[zL (some (zA b o)) ds.length c,Y k] W (AccPost W ds k P)):=fun hr W hW=>
  aj.out k K _ c W ((HA.out.keep N.out hW).more N.out hW.size) U0 hr
 clear aj;generalize ds[k]'K=s at *;obtain⟨E,D,L,O,Q,R,S,Ar,T,At,C,B,M,ca,cb,cp,U,cr,u,V,rfl,cn,h1,h2,h3,h4,h5⟩:=c3;have HM:=zH (h1.more f.out.size);have HG:=zH (h2.more f.out.size);have b3:=zH (h3.more f.out.size);have be:=zH bv;obtain⟨s1,s2,_⟩:=cy;rw[bn] at s1 s2;have cd:=zH bw;have I:=zH (sb_new v (stCells s E D L O Q R S Ar T At C B M ca cb cp U cr u V));have ak:Hid ((stCells s E D L O Q R S Ar T At C B M ca cb cp U cr u V).toArray.all (·.oneCell')=true):=by show _=_;simp[stCells,Value.oneCell']
 clear cn h1 h2 h3 h4 h5 bv bw
 go_upto_region 6 with(first
  |(refine wpList_load_mid rfl 40 (.tmp 31) rfl b (o+k*23) rfl (stCells s E D L O Q R S Ar T At C B M ca cb cp U cr u V) _ be.out Tryz.underlying40 rfl stepSize ?_)
  |(refine qaH rfl 40 (.tmp 9) (.tmp 32) rfl v _ (stCells s E D L O Q R S Ar T At C B M ca cb cp U cr u V).toArray rfl rfl stepSize rfl ak.out ?_))
 generalize v.alloc (.cells (stCells s E D L O Q R S Ar T At C B M ca cb cp U cr u V).toArray 40)=W0 at *;clear be ak;have bj:Hid (RelLrG v (stCells s E D L O Q R S Ar T At C B M ca cb cp U cr u V) s.rule rl (.bool false) (Y ((0:Nat):Int)) W0):=⟨I.out,0,false,U0,rfl,rfl,fun h=>by cases h⟩;clear I;go_wp2_with fail;go_loopw [10,11] (fun v10 v11 wr=>RelLrG v (stCells s E D L O Q R S Ar T At C B M ca cb cp U cr u V) s.rule rl v10 v11 wr) (fun _ v11 _=>rl.length-(intOf v11).toNat);case atStart=>exact bj.out
 case round =>
  obtain⟨hx,J,b4,dt,rfl,rfl,ag⟩:=hrel;have I:=zH hx;have H:=zH ag;clear hx bj ag;clear W0;by_cases bs:J<rl.length
  . obtain ⟨t4,az⟩ : ∃ t,rl[J]? = some t := ⟨_,List.getElem?_eq_getElem bs⟩;have ch:=zH (List.mem_of_getElem? az);have HS:Hid (LrSG v (stCells s E D L O Q R S Ar T At C B M ca cb cp U cr u V) br J t4 wr.drew):=⟨I.out.grow (Below.refl _ _).drew,(I.out.2.1.cell (p:=(zA br J)) (Nat.lt_of_lt_of_le cg f.out.size)).trans ((f.out.cell (p:=(zA br J)) cg).trans (bd.out J t4 az))⟩;clear az;have q0:(0:Int)<=(J:Int):=U0;have q1:(J:Int)<(rl.length:Int):=U0;have q2:IntKind.i64.wrap ((J:Int)+1)=(J:Int)+1:=IntWalk.i64_in _ U0;cases b4
    . by_cases ah : s.rule = (t4 : Int)
      . have cw : (s.rule == (t4 : Int)) = true := beq_iff_eq.2 ah;have ab:Hid (∃ t:Nat,t∈rl/\s.rule=(t:Int)):=⟨t4,ch.out,ah⟩;clear ah;go_upto_region 10 with fail;refine qaD (LrSG v (stCells s E D L O Q R S Ar T At C B M ca cb cp U cr u V) br J t4) U1 U1 HS.out ?_
        repeat (first
         | (apply qaJ rfl
            . intro W l
              go_simp
              try rfl
            go_simp)
         | (apply qbD rfl
            . intro W l
              have z4:=l.2
              have y0:W.cell? (zA v.heap.size 0)=some (Y s.rule):=l.1.cell rfl
              go_simp
              try rfl
            go_simp)
         |(apply qbI rfl;go_simp))
        refine qaE ?_;intro w3 l;have ae:=zH l.1;clear l HS;go_wp2_with fail;go_roundw;case rel=>exact⟨ae.out,J+1,true,U0,gn,rfl,fun _=>ab.out⟩
        case measure=>exact mE
      . have cw : (s.rule == (t4 : Int)) = false := beq_false_of_ne ah;clear ah;go_upto_region 10 with fail;refine qaD (LrSG v (stCells s E D L O Q R S Ar T At C B M ca cb cp U cr u V) br J t4) U1 U1 HS.out ?_
        repeat (first
         | (apply qaJ rfl
            . intro W l
              go_simp
              try rfl
            go_simp)
         | (apply qbD rfl
            . intro W l
              have z4:=l.2
              have y0:W.cell? (zA v.heap.size 0)=some (Y s.rule):=l.1.cell rfl
              go_simp
              try rfl
            go_simp)
         |(apply qbI rfl;go_simp))
        refine qaE ?_;intro w3 l;have ae:=zH l.1;clear l HS;go_wp2_with fail;go_roundw;case rel=>exact⟨ae.out,J+1,false,U0,gn,rfl,fun h=>by cases h⟩
        case measure=>exact mE
    . (have ab : Hid (∃ t : Nat,t ∈ rl /\ s.rule = (t : Int)) := by first | exact H.out rfl | exact H.out trivial | exact H.out);go_upto_region 10 with fail;refine qaD (LrSG v (stCells s E D L O Q R S Ar T At C B M ca cb cp U cr u V) br J t4) U1 U1 HS.out ?_
      repeat (first
       | (apply qaJ rfl
          . intro W l
            go_simp
            try rfl
          go_simp)
       | (apply qbD rfl
          . intro W l
            have z4:=l.2
            have y0:W.cell? (zA v.heap.size 0)=some (Y s.rule):=l.1.cell rfl
            go_simp
            try rfl
          go_simp)
       |(apply qbI rfl;go_simp))
      refine qaE ?_;intro w3 l;have ae:=zH l.1;clear l HS;go_wp2_with fail;go_roundw;case rel=>exact⟨ae.out,J+1,true,U0,gn,rfl,fun _=>ab.out⟩
      case measure=>exact mE
  . have y := zH (f.out.trans (I.out.2.1.mono f.out.size));have q3:¬ (J:Int)<(rl.length:Int):=U0;cases b4;rotate_left
    . (have ab : Hid (∃ t : Nat,t ∈ rl /\ s.rule = (t : Int)) := by first | exact H.out rfl | exact H.out trivial | exact H.out);have a2:=zH (ao.out ab.out wr y.out);clear ao;go_wp2_with fail;refine a2.out.mono ?_;rintro e w4 ⟨z,rfl,ag,hok⟩;have aq:=zH (I.out.grow ag);clear ag a2 I y;clear wr;have a1:=zH (f.out.trans (aq.out.2.1.mono f.out.size));by_cases b2:z=0
      . subst b2;obtain ⟨s',ps,ay,Z,fs,bp,ax⟩:=hok rfl;rw [cd.out] at ay;(obtain rfl:s=s':=by injection ay);have ai:=form_code fs;(have a3:Hid (∀ W:World,Below v.heap.size v W->zC 8 #[Ck s.p s.m E s.mod.length C s.n D s.gen.length B] W fun e w'=>e=.returned (Y 0)/\Below W.heap.size W w'):=fun W hW=>by have:=rcodecheck_c s.p s.m s.mod E C s.n s.gen D B W ((HM.out.keep hW).more hW.size) s1 ((HG.out.keep hW).more hW.size) s2;rw [ai] at this;exact this);(have a9:Hid (∀ W:World,Below v.heap.size v W->∀ hZ:IntsAt W W.heap.size Az zs,zC 12 #[Ck s.p s.m E s.mod.length C s.n D s.gen.length B,zL Az zs.length cz] W fun e w'=>(∃ (g:Nat) (msg:List Nat),e=.returned (zS g s.n.toNat s.n.toNat)/\msg.length=(natR s.gen).length/\(∀ x∈msg,x<s.p.toNat ^ s.m.toNat)/\Row w' W.heap.size g s.n.toNat (nz (cwO s.p.toNat s.m.toNat (mdOf s.m s.mod) s.n.toNat (natR s.gen) msg))/\(cwO s.p.toNat s.m.toNat (mdOf s.m s.mod) s.n.toNat (natR s.gen) msg).length=s.n.toNat)/\Below W.heap.size W w'):=fun W hW hZ=>by obtain ⟨cx,e1,e2,e3,e4⟩:=code_nat ai ((HM.out.keep hW).more hW.size) ((HG.out.keep hW).more hW.size);have:=rof_c cx C B zs Az cz hZ dy;rw [e1,e2,e3,e4] at this;rw [e4];exact this);have dj:=(code_form ai).2.2.1;have b6:=zH fs;have b9:=zH ax;have a5:=zH bp;have a0:=zH Z;have bu:ps.length=np s.rule:=ba.out _ _ ax;(have ck:((s.frm.length:Int) != (np s.rule:Int))=false:=by rw [<- Z.1,bu];exact bne_self_eq_false _);(have al:Hid (∀ W:World,zC 9 #[Y s.rule] W fun e w'=>e=.returned (Y (np s.rule:Int))/\W=w'):=fun W=>by obtain ⟨t,ht,e⟩:=ab.out;rw [e];exact bh.out t W ht);have dr:=Z.1;clear hok ay fs ax bp Z ai;go_upto_region 13 with fail;refine qaD (SB v v.heap.size (stCells s E D L O Q R S Ar T At C B M ca cb cp U cr u V)) U1 U1 (aq.out.grow (Below.refl _ _).drew) ?_
        repeat (first
         | (refine keep_load_mid rfl 32 (.tmp 57) rfl v.heap.size 1 rfl (Ca s.p s.m E s.mod.length C s.n D s.gen.length B) _ (fun W l => l.code) Tryz.underlying32 rfl codeSize ?_
            go_simp)
         | (apply qaJ rfl
            . intro W l
              go_simp
              try rfl
            go_simp)
         | (apply qbD rfl
            . intro W l
              have y0:W.cell? (zA v.heap.size 0)=some (Y s.rule):=l.cell rfl
              have y7:W.cell? (zA v.heap.size 7)=some (zL L s.frm.length M):=l.cell rfl
              go_simp
              try rfl
            go_simp)
         | (apply qaO rfl
            . intro W l
              go_simp
              exact⟨rfl,rfl⟩
            . intro W l
              exact(a3.out W l.2.1).mono (by rintro e w' ⟨rfl,hb⟩;exact⟨rfl,l.grow hb⟩)
            go_simp)
         | (apply qcG rfl
            . intro W l
              go_simp
              exact⟨rfl,rfl⟩
            . intro W l
              exact(al.out W).mono (by rintro e w' ⟨rfl,rfl⟩;exact⟨rfl,l⟩)
            go_simp)
         |(apply qbI rfl;go_simp))
        refine qaE ?_;intro w5 l;have ar:=zH l;clear l aq a1 a3;clear w4;have y:=zH (f.out.trans (ar.out.2.1.mono f.out.size));have bc:Hid (RelLqG v (stCells s E D L O Q R S Ar T At C B M ca cb cp U cr u V) ps (Y ((0:Nat):Int)) w5):=⟨ar.out,0,U0,rfl,fun i p h=>U0⟩;clear bu ck;go_wp2_with fail;go_loopw [12] (fun v12 wr=>RelLqG v (stCells s E D L O Q R S Ar T At C B M ca cb cp U cr u V) ps v12 wr) (fun v12 _=>ps.length-(intOf v12).toNat);case atStart=>exact bc.out
        case round =>
         obtain⟨hx,j,hj,rfl,bq⟩:=hrel;have I:=zH hx;have a6:=zH bq;clear hx bq bc ar y;clear w5;have y7:wr.cell? (zA v.heap.size 7)=some (zL L s.frm.length M):=I.out.cell rfl;have y:=zH (f.out.trans (I.out.2.1.mono f.out.size));by_cases cs:j<ps.length
         . obtain ⟨p,hp⟩ : ∃ p,ps[j]? = some p := ⟨_,List.getElem?_eq_getElem cs⟩;have b8:=zH hp;obtain ⟨a,bo,dn,av⟩:=a0.out.2 j p hp;obtain ⟨bf,of,rfl,cl,au⟩:=b3.out.at_ (k:=j) U0;rw [show s.frm.getD j 0=(a:Int) by simp [List.getD,bo]] at au;have y9:wr.cell? (zA bf (of+j))=some (Y (a:Int)):=(I.out.2.1.cell (p:=(zA bf (of+j))) cl).trans au;have af:a<ds.length:=U0;obtain ⟨b5,o5,cj,e5,dp,an,bz⟩:=(HA.out.keep N.out y.out).at_ af;have aa:=N.out.stc bz;have aw:(ds[a]'af).ok:=HK.out _ (List.getElem_mem af);(have bt:ds[a]'af=p:=by rw [List.getElem?_eq_getElem af] at av;injection av);rw [bt] at aa aw;injection e5 with e5;injection e5 with e6 e7;subst e6;subst e7;have co:=aa.len;have bi:=zH an;have bm:=zH (true_c p cj wr (aa.more y.out.size) aw (form_code (a5.out p (List.mem_of_getElem? hp))));obtain ⟨x0,x1,x2,x3,x4,x5,x6,x7,x8,x9,c4,c5,c6,c7,c8,c9,da,db,dd,de,dg,dh,di,rfl⟩:=cells23 co;have j0:(0:Int)<=(a:Int):=U0;have j1:(a:Int)<(ds.length:Int):=U0;have j2:¬ (k:Int)<=(a:Int):=U0;have j3:¬ (a:Int)<0:=U0;have J:(0:Int)<=(j:Int):=U0;have j5:(j:Int)<(s.frm.length:Int):=U0;clear an aa aw bt bz hp bo av au;go_wp2_with (refine wpList_load_mid rfl 40 (.tmp 98) rfl b (o+a*23) rfl [x0,x1,x2,x3,x4,x5,x6,x7,x8,x9,c4,c5,c6,c7,c8,c9,da,db,dd,de,dg,dh,di] _ bi.out Tryz.underlying40 rfl stepSize ?_);refine bm.out.mono ?_;rintro e w6 ⟨bb,rfl,hb6,ht6⟩;have ac:=zH (I.out.grow hb6);have ce:=zH ht6;clear hb6 ht6 bm bi y7 y9 I;cases bb
           . go_wp2_with fail;go_ret;exact⟨rfl,f.out.trans (ac.out.2.1.mono f.out.size)⟩
           . have b7 : Hid (∀ (i : Nat) (q : StD),i < j + 1 -> ps[i]? = some q -> TrueOk q) := fun i q hi hq => by
              by_cases e:i=j
              . subst e;rw[b8.out] at hq;injection hq with hq;rw[<- hq];exact ce.out rfl
              . exact a6.out i q U0 hq
             go_wp2_with fail;go_roundw;case rel=>exact⟨ac.out,j+1,U0,gn,b7.out⟩
             case measure=>exact mE
         . (obtain rfl : j = ps.length:=by omega);(have ci:Hid (∀p∈ps,TrueOk p):=fun p hp=>by obtain⟨i,hi,e⟩:=List.mem_iff_getElem.1 hp;exact a6.out i p hi (by rw[<- e];exact List.getElem?_eq_getElem hi));have j5:¬(ps.length:Int)<(s.frm.length:Int):=U0;have bg:Hid (wr.rangeAt v.heap.size 1 (Ca s.p s.m E s.mod.length C s.n D s.gen.length B)):=I.out.code;have a8:=zH (a9.out wr I.out.2.1 ((HZ.out.keep y.out).more y.out.size));go_wp2_with (refine wpList_load_mid rfl 32 (.tmp 102) rfl v.heap.size 1 rfl (Ca s.p s.m E s.mod.length C s.n D s.gen.length B) _ bg.out Tryz.underlying32 rfl codeSize ?_);refine a8.out.mono ?_;rintro e w6 ⟨⟨g,msg,rfl,hml,hmq,hrow,hcl⟩,hb6⟩;have ac:=zH (I.out.grow hb6);have a4:Hid (Dv.wt (cwO s.p.toNat s.m.toNat (mdOf s.m s.mod) s.n.toNat (natR s.gen) msg)=0\/s.low<=(Dv.wt (cwO s.p.toNat s.m.toNat (mdOf s.m s.mod) s.n.toNat (natR s.gen) msg):Int)):=(a7.out s ps msg b6.out a5.out ci.out b9.out hml hmq);(have dw:Dv.wt (cwO s.p.toNat s.m.toNat (mdOf s.m s.mod) s.n.toNat (natR s.gen) msg)<=s.n.toNat:=by have:=rwt_le (cwO s.p.toNat s.m.toNat (mdOf s.m s.mod) s.n.toNat (natR s.gen) msg);rw[hcl] at this;exact this);have ap:=zH (weight_c (cwO s.p.toNat s.m.toNat (mdOf s.m s.mod) s.n.toNat (natR s.gen) msg) (zO g) s.n.toNat w6 (row_ints hrow) U0);rw[hcl] at ap;clear hb6 hml hmq hrow hcl a8 bg I y7 a9 ba bh al;generalize Dv.wt (cwO s.p.toNat s.m.toNat (mdOf s.m s.mod) s.n.toNat (natR s.gen) msg)=wt at *;go_wp2_with fail;refine ap.out.mono ?_;rintro e w7 ⟨rfl,rfl⟩;clear ap;have y6:w6.cell? (zA v.heap.size 6)=some (Y s.low):=ac.out.cell rfl;by_cases bx:wt=0
           . subst bx;go_wp2_with fail;go_ret;exact⟨rfl,f.out.trans (ac.out.2.1.mono f.out.size)⟩
           . have dv:((wt:Int)==0)=false:=beq_false_of_ne U0;have du:s.low<=(wt:Int):=(show wt=0\/s.low<=(wt:Int) from a4.out).elim (fun h=>absurd h bx) id;go_wp2_with fail;go_ret;exact⟨U2,f.out.trans (ac.out.2.1.mono f.out.size)⟩
      . have dx:(z != 0)=true:=bne_iff_ne.2 b2;clear hok;go_wp2_with fail;go_ret;exact⟨rfl,a1.out⟩
    . clear ao;go_wp2_with fail;go_ret;exact⟨rfl,y.out⟩
end Go.Proofs.YtndipkplnkfoeaaGreat
