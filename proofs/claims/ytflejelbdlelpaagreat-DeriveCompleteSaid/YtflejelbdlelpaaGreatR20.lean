/- Parts of the proof. -/
import Derived.Test.YtflejelbdlelpaaGreatR19
set_option maxRecDepth 100000
set_option maxHeartbeats 8000000
namespace Go.Proofs.YtflejelbdlelpaaGreat
open Go.RowKit Pln Go.Proofs.Tryz
def szV(p m:Int)(mod:LI)(N:Int)(zs:List LI):Int:=if codeZ p m mod N zs≠0 then 0 else expV (p.toNat^m.toNat) zs.length
def szE(p m:Int)(mod:LI)(N:Int)(zs:List LI):Int:=if codeZ p m mod N zs≠0 then codeZ p m mod N zs else expE (p.toNat^m.toNat) zs.length
theorem size_c2(p m:Int)(mod:LI)(Q:OA)(R:Nat)(N:Int)(zs:List LI)(A:OA)(c:Nat)(w:Wo)(U:zI w Q mod)(V:mod.length<=9223372036854775807)(T:zR w A zs)(X:zs.length<=9223372036854775807)(S:codeZ p m mod N zs=0->zs.length<=1000):
 zC 8 #[C7 p m Q mod.length R N A zs.length c] w fun e w'=>e=.returned (.tuple #[Y (szV p m mod N zs),Y (szE p m mod N zs)])/\zB w w':=by
 have g:=zH (bx_new w (C3 p m Q mod.length R N A zs.length c) 27);have C:=zH U;have z:=zH T;clear U T;go_enter func8,ntmps8;go_upto_region 1 with fail;generalize w.alloc (C8 p m Q mod.length R N A zs.length c)=H at *;have n:=zH g.o.range;have B:=zH (rcodecheck_c p m mod Q R N zs A c H ((C.o.keep g.o.below).more g.o.below.size) V ((z.o.keep g.o.below).more g.o.below.size) U0);clear C z;go_wp2_with (refine wpList_load_mid rfl 27 (.tmp 1) rfl w.heap.size 0 rfl (C3 p m Q mod.length R N A zs.length c) _ n.o underlying27 rfl codeSize ?_);refine B.o.mono ?_;rintro e M ⟨rfl,hb1⟩;have i:=zH (g.o.grow hb1);clear hb1 B g n;by_cases f:codeZ p m mod N zs=0
 . replace S := S f;have x:zK (szV p m mod N zs=expV (p.toNat ^ m.toNat) zs.length):=if_neg (fun h=>h f);have v:zK (szE p m mod N zs=expE (p.toNat ^ m.toNat) zs.length):=if_neg (fun h=>h f);have b:=field_ft (codeZ_n f).1;(have k:((p.toNat:Nat):Int)=p/\((m.toNat:Nat):Int)=m:=by have K:=b.small.p1;have L:=b.small.m1;omega);have s:2<=p.toNat ^ m.toNat:=Nat.le_trans b.small.p1 (Nat.le_self_pow (by have:=b.small.m1;omega) _);have t:=b.small.q;(have E:orderM p m=((p.toNat ^ m.toNat:Nat):Int):=by have h:=qbX b.small.p1 b.small.p2 b.small.m1 b.small.m2;rw [k.1,k.2] at h;rw [h,if_neg U0]);(have D:zK (∀ W,zC 15 #[C4 p m Q mod.length R] W fun e w'=>e=.returned (Y ((p.toNat ^ m.toNat:Nat):Int))/\zB W w'):=fun W=>by rw [<- E];exact rorder_c p m Q mod.length R W);have l:zK (∀ W,zC 14 #[Y ((p.toNat ^ m.toNat:Nat):Int),Y zs.length,Y 65536] W fun e w'=>e=.returned (.tuple #[Y (expV (p.toNat ^ m.toNat) zs.length),Y (expE (p.toNat ^ m.toNat) zs.length)])/\W=w'):=fun W=>exp_c _ _ s t S W;rw [f];clear f b k s t E;generalize p.toNat ^ m.toNat=q at *;generalize expV q zs.length=ev at *;generalize expE q zs.length=J at *;go_upto_region 4 with fail;refine qaD (BX w (C3 p m Q mod.length R N A zs.length c) 27) U1 U1 (i.o.grow zV.drew) ?_
   repeat (first
    | (refine qeP rfl 24 (.tmp 10) rfl w.heap.size 0 rfl (C5 p m Q mod.length R) _ (fun W d => fun j u hu => by
        match j,hu with
        |0,hu=>exact d.range 0 u hu
        |1,hu=>exact d.range 1 u hu
        |2,hu=>exact d.range 2 u hu
        |j+3,hu=>simp at hu) underlying24 rfl fieldSize ?_
       go_simp)
    | (apply qaJ rfl
       . intro W d
         have P:W.cell? (zA w.heap.size 4)=some (zL A zs.length c):=d.cell rfl
         go_simp
         try rfl
       go_simp)
    | (apply qaO rfl
       . intro W d
         go_simp
         exact⟨rfl,rfl⟩
       . intro W d
         first
          |exact(D.o W).mono (by rintro e w' ⟨rfl,hb⟩;exact⟨rfl,d.grow hb⟩)
          |exact(l.o W).mono (by rintro e w' ⟨rfl,rfl⟩;exact⟨rfl,d⟩)
       go_simp))
   refine qaE ?_;intro O r;have y:=zH r;clear r i D l;go_wp2;go_ret2;rw[x.o,v.o];exact⟨rfl,y.o.below⟩
 . have x:zK (szV p m mod N zs=0):=if_pos f;have v:zK (szE p m mod N zs=codeZ p m mod N zs):=if_pos f;have I:=bne_iff_ne.2 f;go_wp2;go_ret2;rw[x.o,v.o];exact⟨rfl,i.o.below⟩
def cnV(p m:Int)(mod:LI)(N:Int)(zs:List LI)(most:Int):Int:=if szE p m mod N zs≠0\/most<szV p m mod N zs then 0 else szV p m mod N zs
theorem count_u(p m:Int)(mod:LI)(x:OA)(y:Nat)(N:Int)(zs:List LI)(A:OA)(c:Nat)(v:Int)(w:Wo)(D:zI w x mod)(E:mod.length<=9223372036854775807)(C:zR w A zs)(z:zs.length<=9223372036854775807)(B:codeZ p m mod N zs=0->zs.length<=1000):
 zC 4 #[C7 p m x mod.length y N A zs.length c,Y v] w fun e w'=>e=.returned (Y (cnV p m mod N zs v))/\zB w w':=by
 have d:=zH (bx_new w (C3 p m x mod.length y N A zs.length c) 27);have r:=zH D;have n:=zH C;clear D C;go_enter func4,ntmps4;go_upto_region 1 with fail;generalize w.alloc (C8 p m x mod.length y N A zs.length c)=t at *;have j:=zH d.o.range;have q:=zH (size_c2 p m mod x y N zs A c t ((r.o.keep d.o.below).more d.o.below.size) E ((n.o.keep d.o.below).more d.o.below.size) z B);have g:zK (cnV p m mod N zs v=if szE p m mod N zs≠0\/v<szV p m mod N zs then 0 else szV p m mod N zs):=rfl;clear r n;generalize szE p m mod N zs=k at *;generalize szV p m mod N zs=ev at *;go_wp2_with (refine wpList_load_mid rfl 27 (.tmp 2) rfl w.heap.size 0 rfl (C3 p m x mod.length y N A zs.length c) _ j.o underlying27 rfl codeSize ?_);refine q.o.mono ?_;rintro e u ⟨rfl,hb1⟩;have f:=zH (d.o.grow hb1);clear hb1 q d j;by_cases i:k=0
 . have l : (k != 0) = false:=bne_eq_false_iff_eq.2 i;by_cases s:v<ev
   . (have b:zK (cnV p m mod N zs v=0):=by show _=_;rw[g.o,if_pos (.inr s)]);clear i g;go_wp2;go_ret;exact⟨qaG (by rw[b.o]),f.o.below⟩
   . (have b:zK (cnV p m mod N zs v=ev):=by show _=_;rw[g.o,if_neg (fun h=>h.elim (fun h=>h i) s)]);clear i g;go_wp2;go_ret;exact⟨qaG (by rw[b.o]),f.o.below⟩
 . have l:(k != 0)=true:=bne_iff_ne.2 i;(have b:zK (cnV p m mod N zs v=0):=by show _=_;rw[g.o,if_pos (.inl i)]);clear g;go_wp2;go_ret;exact⟨qaG (by rw[b.o]),f.o.below⟩
theorem count_c(p m:Int)(mod:LI)(d:OA)(g:Nat)(N:Int)(zs:List LI)(A:OA)(c:Nat)(b:Int)(w:Wo)(i:zI w d mod)(j:mod.length<=9223372036854775807)(h:zR w A zs)(f:zs.length<=1000):
 zC 4 #[C7 p m d mod.length g N A zs.length c,Y b] w fun e w'=>e=.returned (Y (cnV p m mod N zs b))/\zB w w':=
 count_u p m mod d g N zs A c b w i j h U0 fun _=>f
end Go.Proofs.YtflejelbdlelpaaGreat
namespace Go.Proofs.YtflejelbdlelpaaGreat
open Go.RowKit Pln
def LSc(w:Wo)(p m:Nat)(A:OA)(n c bm om bh oh k x:Nat)(v:Value)(W:Wo):Prop:=
 BX w (C5 p m A n c) 24 W/\W.cell? (zA bm (om+k))=some (Y x)/\W.cell? (zA bh (oh+k))=some v
theorem LSc.keep{w:Wo}{p m:Nat}{A:OA}{n c d i b g k x:Nat}{v:Value}{W j:Wo}(h:LSc w p m A n c d i b g k x v W)(f:zB W j):LSc w p m A n c d i b g k x v j:=
 ⟨h.1.grow f,(f.cell (p:=(zA d (i+k))) (World.block_lt_of_cell? W _ h.2.1)).trans h.2.1,(f.cell (p:=(zA b (g+k))) (World.block_lt_of_cell? W _ h.2.2)).trans h.2.2⟩
def RelCb(w:Wo)(p m:Nat)(A:OA)(n c:Nat)(O:Ops)(q:Nat)(msg:LN)(rows:LL)(cols:Nat)(v9 v10:Value)(wr:Wo):Prop:=
 ∃(k g:Nat)(u:LN),k<=rows.length/\v10=Y k/\v9=zS g cols cols/\BX w (C5 p m A n c) 24 wr/\Row wr w.heap.size g cols (nz u)/\u.length=cols/\(∀x∈u,x<q)/\Dv.combO O u (msg.drop k) (rows.drop k)=Dv.combO O (List.replicate cols 0) msg rows
theorem combO_step{O:Ops}{u d:LN}{rows:LL}{k:Nat}(f:k<d.length)(g:k<rows.length){r:LN}(h:Dv.combO O u (d.drop k) (rows.drop k)=r):
 Dv.combO O (if d.getD k 0=0 then u else addRow O u (d.getD k 0) (rows.getD k [])) (d.drop (k+1)) (rows.drop (k+1))=r:=by
 rw[List.drop_eq_getElem_cons f,List.drop_eq_getElem_cons g] at h;unfold Dv.combO at h;have b:d.getD k 0=d[k]:=by simp[List.getD,f]
 have c:rows.getD k []=rows[k]:=by simp[List.getD,g]
 rw[b,c];exact h
theorem row_ints{w:Wo}{B g c:Nat}{zs:LI}(h:Row w B g c zs):zI w (zO g) zs:=fun _=>⟨g,0,rfl,h.lt.2,fun j hj=>by rw[Nat.zero_add];exact h.cell hj⟩
end Go.Proofs.YtflejelbdlelpaaGreat
namespace Go.Proofs.YtflejelbdlelpaaGreat
open Go.RowKit Pln Go.Proofs.Tryz
theorem rcombine_c(p m:Nat)(md:LN)(A:OA)(n c:Nat)(ay:LN)(rows:LL)(Am:OA)(cm:Nat)(Ah:OA)(ch cols:Nat)(w:Wo)(hR:RFld p m md A n w.heap.size w)(hf:∃ l,FT p m md l)(hM:zI w Am (nz ay))(a0:∀ x∈ay,x<p ^ m)(hA:zR w Ah (nzs rows))(az:Grid (p ^ m) rows.length cols rows)(hl:ay.length=rows.length)(hc:cols<=256)(hn:rows.length<=256):
 zC 26 #[C4 p m A n c,zL Am ay.length cm,zL Ah rows.length ch,Y cols] w fun e w'=>(∃g,e=.returned (zS g cols cols)/\Row w' w.heap.size g cols (nz (Dv.combO (refOps p m md) (List.replicate cols 0) ay rows))/\(Dv.combO (refOps p m md) (List.replicate cols 0) ay rows).length=cols/\∀x∈Dv.combO (refOps p m md) (List.replicate cols 0) ay rows,x<p^m)/\zB w w':=by
 have y:=zH (bx_new w (C5 p m A n c) 24);have HM:=zH hM;have HA:=zH hA;have HG:=zH az;have HE:=zH (qeI hR hf);have av:0<p^m:=Nat.pow_pos (by have:=hR.small.p1;omega);have V:zK (∀k,k<rows.length->ay.getD k 0<p^m):=fun k hk=>by
  have ag:k<ay.length:=U0;have:ay.getD k 0=ay[k]:=by simp[List.getD,ag]
  rw[this];exact a0 _ (List.getElem_mem ag)
 have I:zK (∀(a:Nat)(v u:LN)(Av Au:OA)(cv cu:Nat)(W:Wo),a<p^m->(∀x∈v,x<p^m)->(∀x∈u,x<p^m)->v.length=cols->u.length=cols->zI W Av (nz v)->zI W Au (nz u)->zB w W->
  zC 39 #[C4 p m A n c,zL Av cols cv,Y a,zL Au cols cu] W fun e w'=>(∃g,e=.returned (zS g cols cols)/\Row w' W.heap.size g cols (nz (addRow (refOps p m md) v a u)))/\zB W w'):=fun a v u Av Au cv cu W ha hv hu h1 h2 hA hU j=>by
  subst h1
  exact raddto_c p m md A n c a v u Av Au cv cu W ((hR.keep j).more j.size) ha hv hu h2.symm hA hU U0
 obtain⟨i0,hi,aj,ak,al⟩:=qaF infoInt;have HI:=zH hi;have ac:=zH aj;have ad:=zH ak;have R:=zH (show i0.bytes*cols<=281474976710656 by rw[al];omega);have S:=zH (show cols<=maxLen by unfold maxLen;omega);clear hM hA az hR hf a0 hi aj ak al;generalize refOps p m md=O at *;generalize p^m=q at *;go_enter func26,ntmps26;go_upto_region 1 with fail;have L:w.heap.size<=(w.alloc (C2 p m A n c)).heap.size:=U2;generalize w.alloc (C2 p m A n c)=W0 at *;go_wp2_with (refine wpList_make_full W0 rfl (.tmp 11) (.tmp 11) 22 rfl w.heap.size 3 i0 (Y 0) 1 underlying22 HI.o ac.o ad.o .i64 .i64 cols cols cols rfl rfl rfl rfl R.o S.o L ?_;intro w1 J az);have ae:=qaL az;have ah:=Row.of_make J;have aa:zK (RelCb w p m A n c O q ay rows cols (zS W0.heap.size cols cols) (Y ((0:Nat):Int)) w1):=⟨0,_,List.replicate cols 0,Nat.zero_le _,rfl,rfl,y.o.grow ae,ah,U2,fun x hx=>by rw[List.mem_replicate] at hx;omega,rfl⟩;clear J az ae ah L y HI ac ad R S;generalize W0.heap.size=go at *;have au:=hl;clear hl;have ar:((ay.length:Nat):Int)=(rows.length:Int):=U0;go_wp2;go_loopw [9,10] (fun v9 v10 wr=>RelCb w p m A n c O q ay rows cols v9 v10 wr) (fun _ v10 _=>rows.length-(intOf v10).toNat);case atStart=>exact aa.o
 case round =>
  obtain⟨k,g,u,hk,rfl,rfl,hx,K,E,ai,af⟩:=hrel;have y:=zH hx;have HR:=zH K;have t:=zH ai;have T:=zH af;clear hx K ai af aa;by_cases B:k<rows.length
  . (have k0 : (0 : Int) <= (k : Int) := by omega);have k1:(k:Int)<(rows.length:Int):=U0;have k2:(k:Int)<(ay.length:Int):=U0;have aw:IntKind.i64.wrap ((k:Int)+1)=(k:Int)+1:=IntWalk.i64_in _ U0;obtain ⟨bm,om,rfl,aq,N⟩:=(HM.o.keep y.o.below).at_ (k:=k) (by rw [qaA];omega);obtain ⟨bh,oh,P,ci,rfl,ap,M,z⟩:=(HA.o.keep y.o.below).at_ (i:=k) (by rw [nzs_len];exact B);rw [qaC] at N;rw [nzs_getD] at M z;obtain ⟨C,D⟩:=HG.o.row B;rw [qaA,C] at M;have s:=zH (combO_step U0 B T.o);have H:=V.o k B;by_cases f:ay.getD k 0=0
    . rw[if_pos f] at s;rw[f] at N;clear f H D C z;go_wp2;go_roundw;case rel=>exact⟨k+1,g,u,U0,U3,rfl,y.o,HR.o,E,t.o,s.o⟩
      case measure=>simp[intOf];omega
    . rw [if_neg f] at s;(have ax:(((ay.getD k 0:Nat):Int) != 0)=true:=by rw [bne_iff_ne];omega);(have HN:=zH<|(qdB HE.o H t.o D).2);(have an:zK ((addRow O u (ay.getD k 0) (rows.getD k [])).length=cols):=by show _=_;rw [qbU _ _ _ _ U0];exact E)
      have Q:zK (∀W,LSc w p m A n c bm om bh oh k (ay.getD k 0) (zL P cols ci) W->Row W w.heap.size g cols (nz u)->zI W P (nz (rows.getD k []))->zC 39 #[C4 p m A n c,zS g cols cols,Y ((ay.getD k 0:Nat):Int),zL P cols ci] W fun e w'=>(∃g,e=.returned (zS g cols cols)/\Row w' W.heap.size g cols (nz (addRow O u (ay.getD k 0) (rows.getD k []))))/\zB W w'):=fun W j hr hi2=>
       I.o _ u _ _ _ cols ci W H t.o D E C (row_ints hr) hi2 j.1.below
      have Z:zK (LSc w p m A n c bm om bh oh k (ay.getD k 0) (zL P cols ci) wr.drew):=⟨y.o.grow zV.drew,N,M⟩;have U:zK (IntsAt wr.drew wr.drew.heap.size P (nz (rows.getD k []))):=(z.more y.o.below.size).grow zn (Below.refl _ wr).drew;have X:=zH (HR.o.below (Below.refl _ wr).drew HR.o.lt.2);clear f H D C z I HE V;generalize addRow O u (ay.getD k 0) (rows.getD k [])=u2 at *;generalize rows.getD k []=r at *;generalize ay.getD k 0=x at *;go_upto_region 6 with fail;refine qaS 11 11 (LSc w p m A n c bm om bh oh k x (zL P cols ci)) [(0,0),(1,1),(1,2),(1,3),(1,4),(0,5),(1,6),(1,7),(1,8),(0,9),(2,10)] default U1 U1 (fun _ _ d _ _ h=>by cases d<;>exact h) Z.o ?_;generalize wr.drew=Wd at *;simp only[List.map_cons,List.map_nil,List.getD_cons_zero,List.getD_cons_succ];refine qaT rfl 24 (.tmp 4) rfl w.heap.size 0 rfl (C5 p m A n c) _ (fun W j=>j.1.range) underlying24 rfl fieldSize ?_;go_simp
      iterate 4
       apply qaM rfl
       . intro W
         go_simp
         rfl
       go_simp
      apply qbF rfl
      . intro W j;have z0:=j.2.1;go_simp;rfl
      go_simp
      iterate 3
       apply qaM rfl
       . intro W
         go_simp
         rfl
       go_simp
      apply qbF rfl
      . intro W j;have z0:=j.2.2;go_simp;rfl
      go_simp;apply qbE rfl
      . go_simp;exact⟨rfl,rfl⟩
      (with_reducible refine(Q.o Wd Z.o X.o U.o).mono ?_);rintro e w2 ⟨⟨g2,rfl,hr2⟩,hb2⟩;have ab:=zH (Z.o.keep hb2);have ao:=zH (hr2.base (Nat.le_trans Z.o.1.below.size hr2.lt.1));refine⟨_,rfl,ab.o,?_⟩;go_simp;refine qbH ?_;show wpList _ _ _ _ _ _;go_simp;clear hb2 hr2 Z X U Q;go_wp2;go_roundw;case rel=>exact⟨k+1,g2,u2,U0,U3,rfl,ab.o.1,ao.o,an.o,HN.o,s.o⟩
      case measure=>simp[intOf];omega
  . (obtain rfl:k=rows.length:=by omega);(have b:zK (u=Dv.combO O (List.replicate cols 0) ay rows):=by have:=T.o;rw[List.drop_eq_nil_of_le zn] at this;rw[<- this];show u=Dv.combO O u _ [];cases List.drop rows.length ay<;>rfl);go_wp2;go_ret;exact⟨⟨g,rfl,by rw[<- b.o];exact HR.o,by rw[<- b.o];exact E,by rw[<- b.o];exact t.o⟩,y.o.below⟩
structure RCode (p m:Nat) (md:LN) (A:OA) (n cols:Nat) (rows:LL) (Ah:OA) (w:Wo):Prop where
 fld:RFld p m md A n w.heap.size w
 ft:∃l,FT p m md l
 at_:zR w Ah (nzs rows)
 grid:Grid (p^m) rows.length cols rows
 n1:1<=cols
 n2:cols<=64
 len:rows.length<=256
def cwO(p m:Nat)(md:LN)(cols:Nat)(rows:LL)(msg:LN):LN:=Dv.combO (refOps p m md) (List.replicate cols 0) msg rows
section
variable {p m:Nat} {md:LN} {A:OA} {n cols:Nat} {rows:LL} {Ah:OA} {w W:Wo}
theorem RCode.lift(h:RCode p m md A n cols rows Ah w)(b:zB w W):RCode p m md A n cols rows Ah W:=
 ⟨(h.fld.keep b).more b.size,h.ft,(h.at_.keep b).more b.size,h.grid,h.n1,h.n2,h.len⟩
theorem RCode.q2(h:RCode p m md A n cols rows Ah w):2<=p^m/\p^m<=256:=
 ⟨Nat.le_trans h.fld.small.p1 (Nat.le_self_pow (by have:=h.fld.small.m1;omega) _),h.fld.small.q⟩
theorem RCode.order(h:RCode p m md A n cols rows Ah w)(c:Nat)(W:Wo):zC 15 #[C4 p m A n c] W fun e w'=>e=.returned (Y ((p^m:Nat):Int))/\zB W w':=by have d:=h.fld.small.q;have b:=qbX h.fld.small.p1 h.fld.small.p2 h.fld.small.m1 h.fld.small.m2;rw[if_neg U0] at b;rw[<- b];exact rorder_c p m A n c W
theorem RCode.comb(h:RCode p m md A n cols rows Ah w)(d:LN)(f:OA)(c j ch:Nat)(l:zI w f (nz d))(i:∀x∈d,x<p^m)(k:d.length=rows.length):
 zC 26 #[C4 p m A n c,zL f rows.length j,zL Ah rows.length ch,Y cols] w fun e w'=>(∃g,e=.returned (zS g cols cols)/\Row w' w.heap.size g cols (nz (cwO p m md cols rows d))/\(cwO p m md cols rows d).length=cols/\∀x∈cwO p m md cols rows d,x<p^m)/\zB w w':=by have b:=h.n2;have:=rcombine_c p m md A n c d rows f j Ah ch cols w h.fld h.ft l i h.at_ h.grid k U0 h.len;rw[k] at this;exact this
end
section
variable {w:Wo} {cs:List Value} {t:TypeId} {W:Wo}
theorem BX.wrote(h:BX w cs t W){g k:Nat}(b:w.heap.size<g)(u:Value):BX w cs t (W.setCell (zA g k) u):=
 ⟨(Below.heap_setCell W (zA g k) u w.heap.size (by show w.heap.size≠g;omega)).trans h.1,h.2.1.setCell (p:=(zA g k)) (Nat.le_of_lt b) u,by simpa using h.2.2⟩
theorem BX.field{a b c:Value}{l:List Value}(h:BX w (a :: b :: c :: l) t W):W.rangeAt w.heap.size 0 [a,b,c]:=fun j u hu=>by
 match j,hu with
 |0,hu=>exact h.range 0 u hu
 |1,hu=>exact h.range 1 u hu
 |2,hu=>exact h.range 2 u hu
 |j+3,hu=>simp at hu
end
theorem i64_nat{x:Nat}(h:x<=65536):IntKind.i64.wrap (x:Int)=(x:Int):=IntWalk.i64_in _ U0
def RelAtt(w:Wo)(cs:List Value)(g k q i0:Nat)(v1 v7:Value)(wr:Wo):Prop:=
 ∃(j n':Nat)(t:LN),v1=Y n'/\v7=Y ((j:Int)-1)/\n'<=i0/\t.length+j=k/\Dv.digsBE q j n'++t=Dv.digsBE q k i0/\BX w cs 27 wr/\Row wr (w.heap.size+1) g k (nz (List.replicate j 0++t))
theorem rep_set(j x:Nat)(t:LN):(List.replicate (j+1) 0++t).set j x=List.replicate j 0++(x :: t):=by rw[List.replicate_succ',List.append_assoc,List.set_append];simp
theorem at_c{p m:Nat}{md:LN}{A:OA}{n cols:Nat}{rows:LL}{Ah:OA}{w:Wo}(h:RCode p m md A n cols rows Ah w)(c ch i:Nat)(hi:i<=65536):
 zC 17 #[C7 p m A n c cols Ah rows.length ch,Y i] w fun e w'=>(∃g,e=.returned (zS g cols cols)/\Row w' w.heap.size g cols (nz (cwO p m md cols rows (Dv.digsBE (p^m) rows.length i)))/\(cwO p m md cols rows (Dv.digsBE (p^m) rows.length i)).length=cols)/\zB w w':=by
 have f:=zH (bx_new w (C3 p m A n c cols Ah rows.length ch) 27);have HO:zK (∀W,zC 15 #[C4 p m A n c] W fun e w'=>e=.returned (Y ((p^m:Nat):Int))/\zB W w'):=fun W=>h.order c W;have ak:=h.len;obtain⟨q2,q3⟩:=h.q2
 have HC:zK (∀(msg:LN)(g:Nat)(W:Wo),zB w W->Row W (w.heap.size+1) g rows.length (nz msg)->(∀x∈msg,x<p^m)->msg.length=rows.length->zC 26 #[C4 p m A n c,zS g rows.length rows.length,zL Ah rows.length ch,Y cols] W fun e w'=>(∃g,e=.returned (zS g cols cols)/\Row w' W.heap.size g cols (nz (cwO p m md cols rows msg))/\(cwO p m md cols rows msg).length=cols/\∀x∈cwO p m md cols rows msg,x<p^m)/\zB W w'):=fun msg g W hW hr hm hl=>
  (h.lift hW).comb msg _ c _ ch (row_ints hr) hm hl
 obtain⟨i0,S,U,V,X⟩:=qaF infoInt;have HI:=zH S;have N:=zH U;have O:=zH V;have H:=zH (show i0.bytes*rows.length<=281474976710656 by rw[X];omega);have s:=zH (show rows.length<=maxLen by unfold maxLen;omega);clear h S U V X;generalize cwO p m md cols rows=cw at *;generalize p^m=q at *;generalize rows.length=k at *;have ar:((q:Int)==0)=false:=beq_false_of_ne U0;have an:¬(q:Int)=0:=U0;have ao:¬q=0:=U0;go_enter func17,ntmps17;go_upto_region 1 with fail;have B:w.heap.size+1<=(w.alloc (C8 p m A n c cols Ah k ch)).heap.size:=U2;generalize w.alloc (C8 p m A n c cols Ah k ch)=W0 at *;have u:=zH f.o.field;have J:=zH (HO.o W0);go_wp2_with (refine wpList_load_mid rfl 24 (.tmp 8) rfl w.heap.size 0 rfl (C5 p m A n c) _ u.o underlying24 rfl fieldSize ?_);refine J.o.mono ?_;rintro e Z ⟨rfl,d⟩;have E:=zH (f.o.grow d);have l:=Nat.le_trans B d.size;have c4:Z.cell? (zA w.heap.size 4)=some (zL Ah k ch):=E.o.cell rfl;clear d f u J HO;clear B;clear W0;go_wp2_with (refine wpList_make_full Z rfl (.tmp 13) (.tmp 13) 22 rfl (w.heap.size+1) 3 i0 (Y 0) 1 underlying22 HI.o N.o O.o .i64 .i64 k k k rfl rfl rfl rfl H.o s.o l ?_;intro w2 y R);have d:=qaL R;have T:=Row.of_make y;have ax:IntKind.i64.wrap ((k:Int)-1)=(k:Int)-1:=IntWalk.i64_in _ U0;have M:zK (RelAtt w (C3 p m A n c cols Ah k ch) Z.heap.size k q i (Y (i:Int)) (Y ((k:Int)-1)) w2):=⟨k,i,[],rfl,rfl,Nat.le_refl _,U2,U2,E.o.grow d,by rw[List.append_nil];exact T⟩;clear y R d T E HI N O H s c4;have ae:zK (w.heap.size<Z.heap.size):=l;clear l;generalize Z.heap.size=go at *;go_wp2;go_loopw [1,7] (fun v1 v7 wr=>RelAtt w (C3 p m A n c cols Ah k ch) go k q i v1 v7 wr) (fun _ v7 _=>(intOf v7+1).toNat);case atStart=>exact M.o
 case round=>
  obtain⟨j,b,t,rfl,rfl,aq,au,Q,hx,z⟩:=hrel;have f:=zH hx;have K:=zH z;have HD:=zH Q;clear hx z Q M;cases j with
  |succ j=>
   have ej:((j+1:Nat):Int)-1=(j:Int):=U0;rw[ej];have al:=qaY b q;have aj:Int.tdiv (b:Int) (q:Int)=((b / q:Nat):Int):=rfl;have ap:b / q<=b:=Nat.div_le_self _ _;have j0:(0:Int)<=(j:Int):=U0;have j1:(j:Int)<(k:Int):=U0;have av:IntKind.i64.wrap ((j:Int)-1)=(j:Int)-1:=IntWalk.i64_in _ U0;have ai:b / q<=65536:=U0;have aw:=i64_nat ai;have L:=zH (K.o.set j ((b % q:Nat):Int));rw[qbC,rep_set] at L;have f0:=K.o.frozen j;have c0:=K.o.cell (j:=j) (by rw[qaA];simp;omega);have ah:=zH (f.o.wrote (k:=j) ae.o (Y ((b % q:Nat):Int)));(have aa:zK (Dv.digsBE q j (b / q)++(b % q :: t)=Dv.digsBE q k i):=by have h1:(Dv.digsBE q j (b / q)++[b % q])++t=Dv.digsBE q k i:=HD.o;rw[List.append_assoc] at h1;exact h1);generalize b / q=n2 at *;generalize b % q=r at *;go_wp2;go_roundw;case rel=>exact⟨j,n2,r :: t,rfl,U3,U0,so,aa.o,ah.o,L.o⟩
   case measure=>first|(simp[intOf];done)|(simp[intOf];omega)
  |zero=>have ej:((0:Nat):Int)-1=-1:=rfl;rw[ej];have P:=f.o.below;have ad:=zH (Dv.digsBE_lt (q:=q) U0 k i);have ac:=zH (Dv.digsBE_len q k i);have I:zK (t=Dv.digsBE q k i):=HD.o;have D:=zH K.o;rw[show List.replicate 0 0++t=t from rfl,I.o] at D;have C:=zH (HC.o _ go wr P D.o ad.o ac.o);have u:=zH f.o.field;have c3:wr.cell? (zA w.heap.size 3)=some (Y (cols:Int)):=f.o.cell rfl;have c4:wr.cell? (zA w.heap.size 4)=some (zL Ah k ch):=f.o.cell rfl;clear HC K D HD I P;generalize v:Dv.digsBE q k i=dg at C;have ab:=zH v;clear v;go_wp2_with (refine wpList_load_mid rfl 24 (.tmp 31) rfl w.heap.size 0 rfl (C5 p m A n c) _ u.o underlying24 rfl fieldSize ?_);refine C.o.mono ?_;rintro e w3 ⟨⟨g3,rfl,hr3,hl3,_⟩,hb3⟩;have s:=zH (f.o.below.trans (hb3.mono f.o.below.size));have ag:=zH (hr3.base (Nat.le_trans f.o.below.size hr3.lt.1));have af:=zH hl3;clear hb3 hr3 hl3 C;go_wp2;go_ret;rw[ab.o];exact⟨⟨g3,rfl,ag.o,af.o⟩,s.o⟩
end Go.Proofs.YtflejelbdlelpaaGreat
