/- Parts of the proof. -/
import Derived.Test.YtkcdlealipfnbaaGreatR38
import Derived.Test.YtkcdlealipfnbaaGreatR40
set_option maxRecDepth 100000
set_option maxHeartbeats 8000000
namespace Go.Proofs.YtkcdlealipfnbaaGreat
open Go.RowKit Pln Go.Proofs.Tryz
def RelLrG(w:Wo)(cs:List Value)(r:Int)(rl:LN)(v10 v11:Value)(wr:Wo):Prop:=
 SB w w.heap.size cs wr/\∃(j:Nat)(b:Bool),j<=rl.length/\v11=Y j/\v10=.bool b/\(b=true->∃t:Nat,t∈rl/\r=(t:Int))
def LrSG(w:Wo)(cs:List Value)(br j t:Nat)(W:Wo):Prop:=SB w w.heap.size cs W/\W.cell? (zA br j)=some (Y (t:Int))
def RelLqG(w:Wo)(cs:List Value)(ps:List StD)(v12:Value)(wr:Wo):Prop:=
 SB w w.heap.size cs wr/\∃j:Nat,j<=ps.length/\v12=Y j/\∀(i:Nat)(p:StD),i<j->ps[i]?=some p->TrueOk p
def WordOk(s:StD)(msg:LN):Prop:=Dv.wt (cwO s.p.toNat s.m.toNat (mdOf s.m s.mod) s.n.toNat (natR s.gen) msg)=0\/s.low<=(Dv.wt (cwO s.p.toNat s.m.toNat (mdOf s.m s.mod) s.n.toNat (natR s.gen) msg):Int)
theorem local_g{X:Wo->Nat->StD->List Value->Prop}(hX:StX X)(P:StD->List StD->Prop)(np:Int->Nat)(rl:LN)(d1:rl.length<=10)(h3:ThreeOk)(ct:∀ (r:Nat)(W:Wo),r∈rl->zC 9 #[Y (r:Int)] W fun e w'=>e=.returned (Y (np (r:Int):Int))/\W=w')(hP:∀ s ps,P s ps->ps.length=np s.rule)(cf:∀ (s:StD)(ps:List StD)(msg:LN),formZ s=0->(∀ p∈ps,formZ p=0)->(∀ p∈ps,TrueOk p)->P s ps->msg.length=(natR s.gen).length->(∀ x∈msg,x<s.p.toNat ^ s.m.toNat)->WordOk s msg)(ds:List StD)(A:OA)(c:Nat)(i:Int)(zs:LI)(Az:OA)(cz br cr:Nat)(w:Wo)(hA:StsX X w w.heap.size A ds)(hk:∀ d∈ds,d.ok)(hl:ds.length<=maxLen)(hz:zI w Az zs)(d0:zs.length<=maxLen)(cg:br<w.heap.size)(cq:∀ (j r:Nat),rl[j]?=some r->w.cell? (zA br j)=some (Y (r:Int)))(cm:∀ (k:Nat)(hk:k<ds.length)(A:OA)(c:Nat)(W:Wo),StsX X W W.heap.size A ds->ds.length<=1000->(∃ t:Nat,t∈rl/\(ds[k]'hk).rule=(t:Int))->zC 7 #[zL A ds.length c,Y k] W (AccPost W ds k P)):
 zC 4 #[zL A ds.length c,Y i,zL Az zs.length cz,zS br rl.length cr] w (LocPost w):=by
 have HA:=zH hA;have HK:=zH hk;have HZ:=zH hz;have bd:=zH cq;have a7:=zH cf;have M:=zH hX;have bh:=zH ct;have ba:=zH hP;have aj:=zH cm;have bn:maxLen=9223372036854775807:=rfl;rw[bn] at hl d0;have dn:=zH hl;have H3:=zH (h3 w);clear hA hk hz cq h3 cf hX ct hP cm;go_enter func4,ntmps4;go_wp2_with fail;go_fit H3.out;rintro e w1 ⟨rfl,hb1⟩;have ac:=zH hb1;clear hb1 H3;have HF:=zH (few_c ds A c w1 (((HA.o.sts M.o).keep ac.o).more' ac.o.size) HK.o hl);go_wp2_with fail;go_fit HF.o;rintro e v ⟨b0,rfl,hb2,hl12⟩;have f:=zH (ac.o.trans (hb2.mono ac.o.size));clear hb2 HF ac;clear w1;cases b0
 . go_wp2;go_ret;exact⟨rfl,f.o⟩
 replace hl12:=hl12 rfl;by_cases i0:i<0
 . go_wp2;go_ret;exact⟨rfl,f.o⟩
 by_cases i1:(ds.length:Int)<=i
 . go_wp2;go_ret;exact⟨rfl,f.o⟩
 obtain⟨k,rfl⟩:∃k:Nat,i=k:=⟨i.toNat,U0⟩;have af:k<ds.length:=U0;have k0:(0:Int)<=(k:Int):=U0;have k1:(k:Int)<(ds.length:Int):=U0;obtain⟨b,o,dp,rfl,dt,bv,b1⟩:=(HA.o.keep M.o f.o).at_ af;have c4:=M.o.stc b1;clear b1;have c3:=HK.o _ (List.getElem_mem af);have bw:=List.getElem?_eq_getElem af
 have ao:=zH<|fun hr W hW=>
  aj.o k af _ c W ((HA.o.keep M.o hW).more M.o hW.size) U0 hr
 clear aj;generalize ds[k]'af=s at *;obtain⟨H,E,K,N,O,Q,R,Ar,S,At,D,C,L,ca,cb,cp,T,cr,u,U,rfl,co,h1,h2,h3,h4,h5⟩:=c4;have HM:=zH (h1.more f.o.size);have HG:=zH (h2.more f.o.size);have b3:=zH (h3.more f.o.size);have be:=zH bv;obtain⟨s1,s2,_⟩:=c3;rw[bn] at s1 s2;have cd:=zH bw;have I:=zH (sb_new v (stCells s H E K N O Q R Ar S At D C L ca cb cp T cr u U));have ak:zK ((stCells s H E K N O Q R Ar S At D C L ca cb cp T cr u U).toArray.all (·.oneCell')=true):=by show _=_;simp[stCells,Value.oneCell']
 clear co h1 h2 h3 h4 h5 bv bw
 go_upto_region 6 with(first
  |(refine wpList_load_mid rfl 40 (.tmp 31) rfl b (o+k*23) rfl (stCells s H E K N O Q R Ar S At D C L ca cb cp T cr u U) _ be.o underlying40 rfl stepSize ?_)
  |(refine qaH rfl 40 (.tmp 9) (.tmp 32) rfl v _ (stCells s H E K N O Q R Ar S At D C L ca cb cp T cr u U).toArray rfl rfl stepSize rfl ak.o ?_))
 generalize v.alloc (.cells (stCells s H E K N O Q R Ar S At D C L ca cb cp T cr u U).toArray 40)=W0 at *;clear be ak;have bj:zK (RelLrG v (stCells s H E K N O Q R Ar S At D C L ca cb cp T cr u U) s.rule rl (.bool false) (Y ((0:Nat):Int)) W0):=⟨I.o,0,false,U0,rfl,rfl,fun h=>by cases h⟩;clear I;go_wp2;go_loopw [10,11] (fun v10 v11 wr=>RelLrG v (stCells s H E K N O Q R Ar S At D C L ca cb cp T cr u U) s.rule rl v10 v11 wr) (fun _ v11 _=>rl.length-(intOf v11).toNat);case atStart=>exact bj.o
 case round =>
  obtain⟨hx,J,b4,dv,rfl,rfl,ae⟩:=hrel;have I:=zH hx;have B:=zH ae;clear hx bj ae;clear W0;by_cases bs:J<rl.length
  . obtain ⟨t4,az⟩ : ∃ t,rl[J]? = some t := ⟨_,List.getElem?_eq_getElem bs⟩;have ci:=zH (List.mem_of_getElem? az);have HS:zK (LrSG v (stCells s H E K N O Q R Ar S At D C L ca cb cp T cr u U) br J t4 wr.drew):=⟨I.o.grow zV.drew,(I.o.2.1.cell (p:=(zA br J)) (Nat.lt_of_lt_of_le cg f.o.size)).trans ((f.o.cell (p:=(zA br J)) cg).trans (bd.o J t4 az))⟩;clear az;have q0:(0:Int)<=(J:Int):=U0;have q1:(J:Int)<(rl.length:Int):=U0;have q2:IntKind.i64.wrap ((J:Int)+1)=(J:Int)+1:=IntWalk.i64_in _ U0;cases b4
    . by_cases ag : s.rule = (t4 : Int)
      . have cx := beq_iff_eq.2 ag;have aa:zK (∃ t:Nat,t∈rl/\s.rule=(t:Int)):=⟨t4,ci.o,ag⟩;clear ag;go_upto_region 10 with fail;refine qaD (LrSG v (stCells s H E K N O Q R Ar S At D C L ca cb cp T cr u U) br J t4) U1 U1 HS.o ?_
        repeat (first
         | (apply qaJ rfl
            . intro W l
              go_simp
              try rfl
            go_simp)
         | (apply qbD rfl
            . intro W l
              have z4:=l.2
              have y0:W.cell? (zA v.heap.size 0)=some (Y s.rule):=l.1.cell rfl
              go_simp
              try rfl
            go_simp)
         |(apply qbI rfl;go_simp))
        refine qaE ?_;intro w3 l;have ad:=zH l.1;clear l HS;go_wp2;go_roundw;case rel=>exact⟨ad.o,J+1,true,U0,U3,rfl,fun _=>aa.o⟩
        case measure=>simp[intOf];omega
      . have cx := beq_false_of_ne ag;clear ag;go_upto_region 10 with fail;refine qaD (LrSG v (stCells s H E K N O Q R Ar S At D C L ca cb cp T cr u U) br J t4) U1 U1 HS.o ?_
        repeat (first
         | (apply qaJ rfl
            . intro W l
              go_simp
              try rfl
            go_simp)
         | (apply qbD rfl
            . intro W l
              have z4:=l.2
              have y0:W.cell? (zA v.heap.size 0)=some (Y s.rule):=l.1.cell rfl
              go_simp
              try rfl
            go_simp)
         |(apply qbI rfl;go_simp))
        refine qaE ?_;intro w3 l;have ad:=zH l.1;clear l HS;go_wp2;go_roundw;case rel=>exact⟨ad.o,J+1,false,U0,U3,rfl,fun h=>by cases h⟩
        case measure=>simp[intOf];omega
    . (have aa : zK (∃ t : Nat,t ∈ rl /\ s.rule = (t : Int)) := by first|exact B.o rfl|exact B.o trivial|exact B.o);go_upto_region 10 with fail;refine qaD (LrSG v (stCells s H E K N O Q R Ar S At D C L ca cb cp T cr u U) br J t4) U1 U1 HS.o ?_
      repeat (first
       | (apply qaJ rfl
          . intro W l
            go_simp
            try rfl
          go_simp)
       | (apply qbD rfl
          . intro W l
            have z4:=l.2
            have y0:W.cell? (zA v.heap.size 0)=some (Y s.rule):=l.1.cell rfl
            go_simp
            try rfl
          go_simp)
       |(apply qbI rfl;go_simp))
      refine qaE ?_;intro w3 l;have ad:=zH l.1;clear l HS;go_wp2;go_roundw;case rel=>exact⟨ad.o,J+1,true,U0,U3,rfl,fun _=>aa.o⟩
      case measure=>simp[intOf];omega
  . have y := zH (f.o.trans (I.o.2.1.mono f.o.size));have q3:¬ (J:Int)<(rl.length:Int):=U0;cases b4;rotate_left
    . (have aa : zK (∃ t : Nat,t ∈ rl /\ s.rule = (t : Int)) := by first|exact B.o rfl|exact B.o trivial|exact B.o);have a2:=zH (ao.o aa.o wr y.o);clear ao;go_wp2_with fail;refine a2.o.mono ?_;rintro e w4 ⟨z,rfl,ae,hok⟩;have aq:=zH (I.o.grow ae);clear ae a2 I y;clear wr;have a1:=zH (f.o.trans (aq.o.2.1.mono f.o.size));by_cases b2:z=0
      . subst b2;obtain ⟨s',ps,ay,V,fs,bp,ax⟩:=hok rfl;rw [cd.o] at ay;(obtain rfl:s=s':=by injection ay);have ai:=form_code fs;(have a3:=zH<|fun W hW=>by have:=rcodecheck_c s.p s.m s.mod H D s.n s.gen E C W ((HM.o.keep hW).more hW.size) s1 ((HG.o.keep hW).more hW.size) s2;rw [ai] at this;exact this);(have a9:zK (∀ W:Wo,zB v W->∀ hZ:zI W Az zs,zC 12 #[Ca s.p s.m H s.mod.length D s.n E s.gen.length C,zL Az zs.length cz] W fun e w'=>(∃ (g:Nat)(msg:LN),e=.returned (zS g s.n.toNat s.n.toNat)/\msg.length=(natR s.gen).length/\(∀ x∈msg,x<s.p.toNat ^ s.m.toNat)/\Row w' W.heap.size g s.n.toNat (nz (cwO s.p.toNat s.m.toNat (mdOf s.m s.mod) s.n.toNat (natR s.gen) msg))/\(cwO s.p.toNat s.m.toNat (mdOf s.m s.mod) s.n.toNat (natR s.gen) msg).length=s.n.toNat)/\zB W w'):=fun W hW hZ=>by obtain ⟨cy,e1,e2,e3,e4⟩:=code_nat ai ((HM.o.keep hW).more hW.size) ((HG.o.keep hW).more hW.size);have:=rof_c cy D C zs Az cz hZ d0;rw [e1,e2,e3,e4] at this;rw [e4];exact this);have dm:=(qfR ai).2.2.1;have b6:=zH fs;have b9:=zH ax;have a5:=zH bp;have a0:=zH V;have bu:=ba.o _ _ ax;(have cl:((s.frm.length:Int) != (np s.rule:Int))=false:=by rw [<- V.1,bu];exact bne_self_eq_false _);(have al:zK (∀ W:Wo,zC 9 #[Y s.rule] W fun e w'=>e=.returned (Y (np s.rule:Int))/\W=w'):=fun W=>by obtain ⟨t,ht,e⟩:=aa.o;rw [e];exact bh.o t W ht);have du:=V.1;clear hok ay fs ax bp V ai;go_upto_region 13 with fail;refine qaD (SB v v.heap.size (stCells s H E K N O Q R Ar S At D C L ca cb cp T cr u U)) U1 U1 (aq.o.grow zV.drew) ?_
        repeat (first
         | (refine keep_load_mid rfl 32 (.tmp 57) rfl v.heap.size 1 rfl (C2 s.p s.m H s.mod.length D s.n E s.gen.length C) _ (fun W l => l.code) underlying32 rfl codeSize ?_
            go_simp)
         | (apply qaJ rfl
            . intro W l
              go_simp
              try rfl
            go_simp)
         | (apply qbD rfl
            . intro W l
              have y0:W.cell? (zA v.heap.size 0)=some (Y s.rule):=l.cell rfl
              have y7:W.cell? (zA v.heap.size 7)=some (zL K s.frm.length L):=l.cell rfl
              go_simp
              try rfl
            go_simp)
         | (apply qaO rfl
            . intro W l
              go_simp
              exact⟨rfl,rfl⟩
            . intro W l
              exact(a3.o W l.2.1).mono (by rintro e w' ⟨rfl,hb⟩;exact⟨rfl,l.grow hb⟩)
            go_simp)
         | (apply qcG rfl
            . intro W l
              go_simp
              exact⟨rfl,rfl⟩
            . intro W l
              exact(al.o W).mono (by rintro e w' ⟨rfl,rfl⟩;exact⟨rfl,l⟩)
            go_simp)
         |(apply qbI rfl;go_simp))
        refine qaE ?_;intro w5 l;have ar:=zH l;clear l aq a1 a3;clear w4;have y:=zH (f.o.trans (ar.o.2.1.mono f.o.size));have bc:zK (RelLqG v (stCells s H E K N O Q R Ar S At D C L ca cb cp T cr u U) ps (Y ((0:Nat):Int)) w5):=⟨ar.o,0,U0,rfl,fun i p h=>U0⟩;clear bu cl;go_wp2;go_loopw [12] (fun v12 wr=>RelLqG v (stCells s H E K N O Q R Ar S At D C L ca cb cp T cr u U) ps v12 wr) (fun v12 _=>ps.length-(intOf v12).toNat);case atStart=>exact bc.o
        case round =>
         obtain⟨hx,j,hj,rfl,bq⟩:=hrel;have I:=zH hx;have a6:=zH bq;clear hx bq bc ar y;clear w5;have y7:wr.cell? (zA v.heap.size 7)=some (zL K s.frm.length L):=I.o.cell rfl;have y:=zH (f.o.trans (I.o.2.1.mono f.o.size));by_cases cw:j<ps.length
         . obtain ⟨p,hp⟩ : ∃ p,ps[j]? = some p := ⟨_,List.getElem?_eq_getElem cw⟩;have b8:=zH hp;obtain ⟨a,bo,dq,av⟩:=a0.o.2 j p hp;obtain ⟨bf,of,rfl,cn,au⟩:=b3.o.at_ (k:=j) U0;rw [show s.frm.getD j 0=(a:Int) by simp [List.getD,bo]] at au;have y9:=(I.o.2.1.cell (p:=(zA bf (of+j))) cn).trans au;have ah:a<ds.length:=U0;obtain ⟨b5,o5,ck,e5,dr,an,bz⟩:=(HA.o.keep M.o y.o).at_ ah;have Z:=M.o.stc bz;have aw:=HK.o _ (List.getElem_mem ah);(have bt:ds[a]'ah=p:=by rw [List.getElem?_eq_getElem ah] at av;injection av);rw [bt] at Z aw;injection e5 with e5;injection e5 with e6 e7;subst e6;subst e7;have cs:=Z.len;have bi:=zH an;have bm:=zH (true_c p ck wr (Z.more y.o.size) aw (form_code (a5.o p (List.mem_of_getElem? hp))));obtain ⟨x0,x1,x2,x3,x4,x5,x6,x7,x8,x9,c5,c6,c7,c8,c9,da,db,dd,de,dg,dh,di,dj,rfl⟩:=cells23 cs;have j0:(0:Int)<=(a:Int):=U0;have j1:(a:Int)<(ds.length:Int):=U0;have j2:¬ (k:Int)<=(a:Int):=U0;have j3:¬ (a:Int)<0:=U0;have J:(0:Int)<=(j:Int):=U0;have j5:(j:Int)<(s.frm.length:Int):=U0;clear an Z aw bt bz hp bo av au;go_wp2_with (refine wpList_load_mid rfl 40 (.tmp 98) rfl b (o+a*23) rfl [x0,x1,x2,x3,x4,x5,x6,x7,x8,x9,c5,c6,c7,c8,c9,da,db,dd,de,dg,dh,di,dj] _ bi.o underlying40 rfl stepSize ?_);refine bm.o.mono ?_;rintro e w6 ⟨bb,rfl,hb6,ht6⟩;have ab:=zH (I.o.grow hb6);have ce:=zH ht6;clear hb6 ht6 bm bi y7 y9 I;cases bb
           . go_wp2;go_ret;exact⟨rfl,f.o.trans (ab.o.2.1.mono f.o.size)⟩
           . have b7 : zK (∀ (i : Nat)(q : StD),i < j + 1 -> ps[i]? = some q -> TrueOk q) := fun i q hi hq => by
              by_cases e:i=j
              . subst e;rw[b8.o] at hq;injection hq with hq;rw[<- hq];exact ce.o rfl
              . exact a6.o i q U0 hq
             go_wp2;go_roundw;case rel=>exact⟨ab.o,j+1,U0,U3,b7.o⟩
             case measure=>simp[intOf];omega
         . (obtain rfl : j = ps.length:=by omega);(have cj:zK (∀p∈ps,TrueOk p):=fun p hp=>by obtain⟨i,hi,e⟩:=List.mem_iff_getElem.1 hp;exact a6.o i p hi (by rw[<- e];exact List.getElem?_eq_getElem hi));have j5:¬(ps.length:Int)<(s.frm.length:Int):=U0;(have bg:=zH<|I.o.code);have a8:=zH (a9.o wr I.o.2.1 ((HZ.o.keep y.o).more y.o.size));go_wp2_with (refine wpList_load_mid rfl 32 (.tmp 102) rfl v.heap.size 1 rfl (C2 s.p s.m H s.mod.length D s.n E s.gen.length C) _ bg.o underlying32 rfl codeSize ?_);refine a8.o.mono ?_;rintro e w6 ⟨⟨g,msg,rfl,hml,hmq,hrow,hcl⟩,hb6⟩;have ab:=zH (I.o.grow hb6);have a4:zK (Dv.wt (cwO s.p.toNat s.m.toNat (mdOf s.m s.mod) s.n.toNat (natR s.gen) msg)=0\/s.low<=(Dv.wt (cwO s.p.toNat s.m.toNat (mdOf s.m s.mod) s.n.toNat (natR s.gen) msg):Int)):=(a7.o s ps msg b6.o a5.o cj.o b9.o hml hmq);(have dy:Dv.wt (cwO s.p.toNat s.m.toNat (mdOf s.m s.mod) s.n.toNat (natR s.gen) msg)<=s.n.toNat:=by have:=rwt_le (cwO s.p.toNat s.m.toNat (mdOf s.m s.mod) s.n.toNat (natR s.gen) msg);rw[hcl] at this;exact this);have ap:=zH (weight_c (cwO s.p.toNat s.m.toNat (mdOf s.m s.mod) s.n.toNat (natR s.gen) msg) (zO g) s.n.toNat w6 (row_ints hrow) U0);rw[hcl] at ap;clear hb6 hml hmq hrow hcl a8 bg I y7 a9 ba bh al;generalize Dv.wt (cwO s.p.toNat s.m.toNat (mdOf s.m s.mod) s.n.toNat (natR s.gen) msg)=wt at *;go_wp2_with fail;refine ap.o.mono ?_;rintro e w7 ⟨rfl,rfl⟩;clear ap;have y6:w6.cell? (zA v.heap.size 6)=some (Y s.low):=ab.o.cell rfl;by_cases bx:wt=0
           . subst bx;go_wp2;go_ret;exact⟨rfl,f.o.trans (ab.o.2.1.mono f.o.size)⟩
           . have dx:((wt:Int)==0)=false:=beq_false_of_ne U0;have dw:=(show wt=0\/s.low<=(wt:Int) from a4.o).elim (fun h=>absurd h bx) id;go_wp2;go_ret;exact⟨U2,f.o.trans (ab.o.2.1.mono f.o.size)⟩
      . have dz:=bne_iff_ne.2 b2;clear hok;go_wp2;go_ret;exact⟨rfl,a1.o⟩
    . clear ao;go_wp2;go_ret;exact⟨rfl,y.o⟩
end Go.Proofs.YtkcdlealipfnbaaGreat
