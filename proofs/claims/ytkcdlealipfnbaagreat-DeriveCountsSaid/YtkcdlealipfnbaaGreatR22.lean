/- Parts of the proof. -/
import Derived.Test.YtkcdlealipfnbaaGreatR18
set_option maxRecDepth 100000
set_option maxHeartbeats 8000000
namespace Go.Proofs.YtkcdlealipfnbaaGreat
open Go.RowKit Pln Go.Proofs.Tryz
def szV(p m:Int)(mod:LI)(N:Int)(zs:List LI):Int:=if codeZ p m mod N zs≠0 then 0 else expV (p.toNat^m.toNat) zs.length
def szE(p m:Int)(mod:LI)(N:Int)(zs:List LI):Int:=if codeZ p m mod N zs≠0 then codeZ p m mod N zs else expE (p.toNat^m.toNat) zs.length
theorem size_c2(p m:Int)(mod:LI)(Q:OA)(R:Nat)(N:Int)(zs:List LI)(A:OA)(c:Nat)(w:Wo)(U:zI w Q mod)(V:mod.length<=9223372036854775807)(T:zR w A zs)(S:zs.length<=1000):
 zC 39 #[Ca p m Q mod.length R N A zs.length c] w fun e w'=>e=.returned (.tuple #[Y (szV p m mod N zs),Y (szE p m mod N zs)])/\zB w w':=by
 have g:=zH (bx_new w (C2 p m Q mod.length R N A zs.length c) 32);have C:=zH U;have z:=zH T;clear U T;go_enter func39,ntmps39;go_upto_region 1 with fail;generalize w.alloc (C9 p m Q mod.length R N A zs.length c)=H at *;have n:=zH g.o.range;have B:=zH (rcodecheck_c p m mod Q R N zs A c H ((C.o.keep g.o.below).more g.o.below.size) V ((z.o.keep g.o.below).more g.o.below.size) U0);clear C z;go_wp2_with (refine wpList_load_mid rfl 32 (.tmp 1) rfl w.heap.size 0 rfl (C2 p m Q mod.length R N A zs.length c) _ n.o underlying32 rfl codeSize ?_);refine B.o.mono ?_;rintro e M ⟨rfl,hb1⟩;have i:=zH (g.o.grow hb1);clear hb1 B g n;by_cases f:codeZ p m mod N zs=0
 . have x : zK (szV p m mod N zs = expV (p.toNat ^ m.toNat) zs.length) := if_neg (fun h => h f);have v:zK (szE p m mod N zs=expE (p.toNat ^ m.toNat) zs.length):=if_neg (fun h=>h f);have b:=field_ft (codeZ_n f).1;(have k:((p.toNat:Nat):Int)=p/\((m.toNat:Nat):Int)=m:=by have K:=b.small.p1;have L:=b.small.m1;omega);have s:2<=p.toNat ^ m.toNat:=Nat.le_trans b.small.p1 (Nat.le_self_pow (by have:=b.small.m1;omega) _);have t:=b.small.q;(have E:orderM p m=((p.toNat ^ m.toNat:Nat):Int):=by have h:=qbX b.small.p1 b.small.p2 b.small.m1 b.small.m2;rw [k.1,k.2] at h;rw [h,if_neg U0]);(have D:zK (∀ W,zC 33 #[C6 p m Q mod.length R] W fun e w'=>e=.returned (Y ((p.toNat ^ m.toNat:Nat):Int))/\zB W w'):=fun W=>by rw [<- E];exact rorder_c p m Q mod.length R W);(have l:=zH<|fun W=>exp_c _ _ s t S W);rw [f];clear f b k s t E;generalize p.toNat ^ m.toNat=q at *;generalize expV q zs.length=ev at *;generalize expE q zs.length=J at *;go_upto_region 4 with fail;refine qaD (BX w (C2 p m Q mod.length R N A zs.length c) 32) U1 U1 (i.o.grow zV.drew) ?_
   repeat (first
    | (refine keep_load_mid rfl 29 (.tmp 10) rfl w.heap.size 0 rfl (C7 p m Q mod.length R) _ (fun W d => fun j u hu => by
        match j,hu with
        |0,hu=>exact d.range 0 u hu
        |1,hu=>exact d.range 1 u hu
        |2,hu=>exact d.range 2 u hu
        |j+3,hu=>simp at hu) underlying29 rfl fieldSize ?_
       go_simp)
    | (apply qaJ rfl
       . intro W d
         have P:W.cell? (zA w.heap.size 4)=some (zL A zs.length c):=d.cell rfl
         go_simp
         try rfl
       go_simp)
    | (apply qaO rfl
       . intro W d
         go_simp
         exact⟨rfl,rfl⟩
       . intro W d
         first
          |exact(D.o W).mono (by rintro e w' ⟨rfl,hb⟩;exact⟨rfl,d.grow hb⟩)
          |exact(l.o W).mono (by rintro e w' ⟨rfl,rfl⟩;exact⟨rfl,d⟩)
       go_simp))
   refine qaE ?_;intro O r;have y:=zH r;clear r i D l;go_wp2;go_ret2;rw[x.o,v.o];exact⟨rfl,y.o.below⟩
 . have x:zK (szV p m mod N zs=0):=if_pos f;have v:zK (szE p m mod N zs=codeZ p m mod N zs):=if_pos f;have I:=bne_iff_ne.2 f;go_wp2;go_ret2;rw[x.o,v.o];exact⟨rfl,i.o.below⟩
def cnV(p m:Int)(mod:LI)(N:Int)(zs:List LI)(most:Int):Int:=if szE p m mod N zs≠0\/most<szV p m mod N zs then 0 else szV p m mod N zs
theorem count_c(p m:Int)(mod:LI)(x:OA)(y:Nat)(N:Int)(zs:List LI)(A:OA)(c:Nat)(v:Int)(w:Wo)(C:zI w x mod)(D:mod.length<=9223372036854775807)(B:zR w A zs)(z:zs.length<=1000):
 zC 20 #[Ca p m x mod.length y N A zs.length c,Y v] w fun e w'=>e=.returned (Y (cnV p m mod N zs v))/\zB w w':=by
 have d:=zH (bx_new w (C2 p m x mod.length y N A zs.length c) 32);have q:=zH C;have l:=zH B;clear C B;go_enter func20,ntmps20;go_upto_region 1 with fail;generalize w.alloc (C9 p m x mod.length y N A zs.length c)=s at *;have j:=zH d.o.range;have n:=zH (size_c2 p m mod x y N zs A c s ((q.o.keep d.o.below).more d.o.below.size) D ((l.o.keep d.o.below).more d.o.below.size) z);have g:zK (cnV p m mod N zs v=if szE p m mod N zs≠0\/v<szV p m mod N zs then 0 else szV p m mod N zs):=rfl;clear q l;generalize szE p m mod N zs=t at *;generalize szV p m mod N zs=ev at *;go_wp2_with (refine wpList_load_mid rfl 32 (.tmp 2) rfl w.heap.size 0 rfl (C2 p m x mod.length y N A zs.length c) _ j.o underlying32 rfl codeSize ?_);refine n.o.mono ?_;rintro e u ⟨rfl,hb1⟩;have f:=zH (d.o.grow hb1);clear hb1 n d j;by_cases i:t=0
 . have k:=bne_eq_false_iff_eq.2 i;by_cases r:v<ev
   . (have b:zK (cnV p m mod N zs v=0):=by show _=_;rw[g.o,if_pos (.inr r)]);clear i g;go_wp2;go_ret;exact⟨qaG (by rw[b.o]),f.o.below⟩
   . (have b:zK (cnV p m mod N zs v=ev):=by show _=_;rw[g.o,if_neg (fun h=>h.elim (fun h=>h i) r)]);clear i g;go_wp2;go_ret;exact⟨qaG (by rw[b.o]),f.o.below⟩
 . have k:=bne_iff_ne.2 i;(have b:zK (cnV p m mod N zs v=0):=by show _=_;rw[g.o,if_pos (.inl i)]);clear g;go_wp2;go_ret;exact⟨qaG (by rw[b.o]),f.o.below⟩
end Go.Proofs.YtkcdlealipfnbaaGreat
namespace Go.Proofs.YtkcdlealipfnbaaGreat
open Go.RowKit Pln
def LSc(w:Wo)(p m:Nat)(A:OA)(n c bm om bh oh k x:Nat)(v:Value)(W:Wo):Prop:=
 BX w (C7 p m A n c) 29 W/\W.cell? (zA bm (om+k))=some (Y x)/\W.cell? (zA bh (oh+k))=some v
theorem LSc.keep{w:Wo}{p m:Nat}{A:OA}{n c d i b g k x:Nat}{v:Value}{W j:Wo}(h:LSc w p m A n c d i b g k x v W)(f:zB W j):LSc w p m A n c d i b g k x v j:=
 ⟨h.1.grow f,(f.cell (p:=(zA d (i+k))) (World.block_lt_of_cell? W _ h.2.1)).trans h.2.1,(f.cell (p:=(zA b (g+k))) (World.block_lt_of_cell? W _ h.2.2)).trans h.2.2⟩
def RelCb(w:Wo)(p m:Nat)(A:OA)(n c:Nat)(O:Ops)(q:Nat)(msg:LN)(rows:LL)(cols:Nat)(v9 v10:Value)(wr:Wo):Prop:=
 ∃(k g:Nat)(u:LN),k<=rows.length/\v10=Y k/\v9=zS g cols cols/\BX w (C7 p m A n c) 29 wr/\Row wr w.heap.size g cols (nz u)/\u.length=cols/\(∀x∈u,x<q)/\Dv.combO O u (msg.drop k) (rows.drop k)=Dv.combO O (List.replicate cols 0) msg rows
theorem combO_step{O:Ops}{u d:LN}{rows:LL}{k:Nat}(f:k<d.length)(g:k<rows.length){r:LN}(h:Dv.combO O u (d.drop k) (rows.drop k)=r):
 Dv.combO O (if d.getD k 0=0 then u else addRow O u (d.getD k 0) (rows.getD k [])) (d.drop (k+1)) (rows.drop (k+1))=r:=by
 rw[List.drop_eq_getElem_cons f,List.drop_eq_getElem_cons g] at h;unfold Dv.combO at h;have b:d.getD k 0=d[k]:=by simp[List.getD,f]
 have c:rows.getD k []=rows[k]:=by simp[List.getD,g]
 rw[b,c];exact h
theorem row_ints{w:Wo}{B g c:Nat}{zs:LI}(h:Row w B g c zs):zI w (zO g) zs:=fun _=>⟨g,0,rfl,h.lt.2,fun j hj=>by rw[Nat.zero_add];exact h.cell hj⟩
end Go.Proofs.YtkcdlealipfnbaaGreat
namespace Go.Proofs.YtkcdlealipfnbaaGreat
open Go.RowKit Pln Go.Proofs.Tryz
theorem rcombine_c(p m:Nat)(md:LN)(A:OA)(n c:Nat)(ay:LN)(rows:LL)(Am:OA)(cm:Nat)(Ah:OA)(ch cols:Nat)(w:Wo)(hR:RFld p m md A n w.heap.size w)(hf:∃ l,FT p m md l)(hM:zI w Am (nz ay))(a0:∀ x∈ay,x<p ^ m)(hA:zR w Ah (nzs rows))(az:Grid (p ^ m) rows.length cols rows)(hl:ay.length=rows.length)(hc:cols<=256)(hn:rows.length<=256):
 zC 23 #[C6 p m A n c,zL Am ay.length cm,zL Ah rows.length ch,Y cols] w fun e w'=>(∃g,e=.returned (zS g cols cols)/\Row w' w.heap.size g cols (nz (Dv.combO (refOps p m md) (List.replicate cols 0) ay rows))/\(Dv.combO (refOps p m md) (List.replicate cols 0) ay rows).length=cols/\∀x∈Dv.combO (refOps p m md) (List.replicate cols 0) ay rows,x<p^m)/\zB w w':=by
 have y:=zH (bx_new w (C7 p m A n c) 29);have HM:=zH hM;have HA:=zH hA;have HG:=zH az;have HE:=zH (qeI hR hf);have av:0<p^m:=Nat.pow_pos (by have:=hR.small.p1;omega);have V:zK (∀k,k<rows.length->ay.getD k 0<p^m):=fun k hk=>by
  have ag:k<ay.length:=U0;have:ay.getD k 0=ay[k]:=by simp[List.getD,ag]
  rw[this];exact a0 _ (List.getElem_mem ag)
 have I:zK (∀(a:Nat)(v u:LN)(Av Au:OA)(cv cu:Nat)(W:Wo),a<p^m->(∀x∈v,x<p^m)->(∀x∈u,x<p^m)->v.length=cols->u.length=cols->zI W Av (nz v)->zI W Au (nz u)->zB w W->
  zC 42 #[C6 p m A n c,zL Av cols cv,Y a,zL Au cols cu] W fun e w'=>(∃g,e=.returned (zS g cols cols)/\Row w' W.heap.size g cols (nz (addRow (refOps p m md) v a u)))/\zB W w'):=fun a v u Av Au cv cu W ha hv hu h1 h2 hA hU j=>by
  subst h1
  exact raddto_c p m md A n c a v u Av Au cv cu W ((hR.keep j).more j.size) ha hv hu h2.symm hA hU U0
 obtain⟨i0,hi,aj,ak,al⟩:=qaF infoInt;have HI:=zH hi;have ac:=zH aj;have ad:=zH ak;have R:=zH (show i0.bytes*cols<=281474976710656 by rw[al];omega);have S:=zH (show cols<=maxLen by unfold maxLen;omega);clear hM hA az hR hf a0 hi aj ak al;generalize refOps p m md=O at *;generalize p^m=q at *;go_enter func23,ntmps23;go_upto_region 1 with fail;have L:w.heap.size<=(w.alloc (C3 p m A n c)).heap.size:=U2;generalize w.alloc (C3 p m A n c)=W0 at *;go_wp2_with (refine wpList_make_full W0 rfl (.tmp 11) (.tmp 11) 23 rfl w.heap.size 3 i0 (Y 0) 1 underlying23 HI.o ac.o ad.o .i64 .i64 cols cols cols rfl rfl rfl rfl R.o S.o L ?_;intro w1 J az);have ae:=qaL az;have ah:=Row.of_make J;have aa:zK (RelCb w p m A n c O q ay rows cols (zS W0.heap.size cols cols) (Y ((0:Nat):Int)) w1):=⟨0,_,List.replicate cols 0,Nat.zero_le _,rfl,rfl,y.o.grow ae,ah,U2,fun x hx=>by rw[List.mem_replicate] at hx;omega,rfl⟩;clear J az ae ah L y HI ac ad R S;generalize W0.heap.size=go at *;have au:=hl;clear hl;have ar:((ay.length:Nat):Int)=(rows.length:Int):=U0;go_wp2;go_loopw [9,10] (fun v9 v10 wr=>RelCb w p m A n c O q ay rows cols v9 v10 wr) (fun _ v10 _=>rows.length-(intOf v10).toNat);case atStart=>exact aa.o
 case round =>
  obtain⟨k,g,u,hk,rfl,rfl,hx,K,E,ai,af⟩:=hrel;have y:=zH hx;have HR:=zH K;have t:=zH ai;have T:=zH af;clear hx K ai af aa;by_cases B:k<rows.length
  . (have k0 : (0 : Int) <= (k : Int) := by omega);have k1:(k:Int)<(rows.length:Int):=U0;have k2:(k:Int)<(ay.length:Int):=U0;have aw:IntKind.i64.wrap ((k:Int)+1)=(k:Int)+1:=IntWalk.i64_in _ U0;obtain ⟨bm,om,rfl,aq,N⟩:=(HM.o.keep y.o.below).at_ (k:=k) (by rw [qaA];omega);obtain ⟨bh,oh,P,ci,rfl,ap,M,z⟩:=(HA.o.keep y.o.below).at_ (i:=k) (by rw [nzs_len];exact B);rw [qaC] at N;rw [nzs_getD] at M z;obtain ⟨C,D⟩:=HG.o.row B;rw [qaA,C] at M;have s:=zH (combO_step U0 B T.o);have H:=V.o k B;by_cases f:ay.getD k 0=0
    . rw[if_pos f] at s;rw[f] at N;clear f H D C z;go_wp2;go_roundw;case rel=>exact⟨k+1,g,u,U0,U3,rfl,y.o,HR.o,E,t.o,s.o⟩
      case measure=>simp[intOf];omega
    . rw [if_neg f] at s;(have ax:(((ay.getD k 0:Nat):Int) != 0)=true:=by rw [bne_iff_ne];omega);(have HN:=zH<|(qdB HE.o H t.o D).2);(have an:zK ((addRow O u (ay.getD k 0) (rows.getD k [])).length=cols):=by show _=_;rw [qbU _ _ _ _ U0];exact E)
      have Q:zK (∀W,LSc w p m A n c bm om bh oh k (ay.getD k 0) (zL P cols ci) W->Row W w.heap.size g cols (nz u)->zI W P (nz (rows.getD k []))->zC 42 #[C6 p m A n c,zS g cols cols,Y ((ay.getD k 0:Nat):Int),zL P cols ci] W fun e w'=>(∃g,e=.returned (zS g cols cols)/\Row w' W.heap.size g cols (nz (addRow O u (ay.getD k 0) (rows.getD k []))))/\zB W w'):=fun W j hr hi2=>
       I.o _ u _ _ _ cols ci W H t.o D E C (row_ints hr) hi2 j.1.below
      have Z:zK (LSc w p m A n c bm om bh oh k (ay.getD k 0) (zL P cols ci) wr.drew):=⟨y.o.grow zV.drew,N,M⟩;have U:zK (IntsAt wr.drew wr.drew.heap.size P (nz (rows.getD k []))):=(z.more y.o.below.size).grow zn (Below.refl _ wr).drew;have X:=zH (HR.o.below (Below.refl _ wr).drew HR.o.lt.2);clear f H D C z I HE V;generalize addRow O u (ay.getD k 0) (rows.getD k [])=u2 at *;generalize rows.getD k []=r at *;generalize ay.getD k 0=x at *;go_upto_region 6 with fail;refine qaS 11 11 (LSc w p m A n c bm om bh oh k x (zL P cols ci)) [(0,0),(1,1),(1,2),(1,3),(1,4),(0,5),(1,6),(1,7),(1,8),(0,9),(2,10)] default U1 U1 (fun _ _ d _ _ h=>by cases d<;>exact h) Z.o ?_;generalize wr.drew=Wd at *;simp only[List.map_cons,List.map_nil,List.getD_cons_zero,List.getD_cons_succ];refine qaT rfl 29 (.tmp 4) rfl w.heap.size 0 rfl (C7 p m A n c) _ (fun W j=>j.1.range) underlying29 rfl fieldSize ?_;go_simp
      iterate 4
       apply qaM rfl
       . intro W
         go_simp
         rfl
       go_simp
      apply qbF rfl
      . intro W j;have z0:=j.2.1;go_simp;rfl
      go_simp
      iterate 3
       apply qaM rfl
       . intro W
         go_simp
         rfl
       go_simp
      apply qbF rfl
      . intro W j;have z0:=j.2.2;go_simp;rfl
      go_simp;apply qbE rfl
      . go_simp;exact⟨rfl,rfl⟩
      (with_reducible refine(Q.o Wd Z.o X.o U.o).mono ?_);rintro e w2 ⟨⟨g2,rfl,hr2⟩,hb2⟩;have ab:=zH (Z.o.keep hb2);have ao:=zH (hr2.base (Nat.le_trans Z.o.1.below.size hr2.lt.1));refine⟨_,rfl,ab.o,?_⟩;go_simp;refine qbH ?_;show wpList _ _ _ _ _ _;go_simp;clear hb2 hr2 Z X U Q;go_wp2;go_roundw;case rel=>exact⟨k+1,g2,u2,U0,U3,rfl,ab.o.1,ao.o,an.o,HN.o,s.o⟩
      case measure=>simp[intOf];omega
  . (obtain rfl:k=rows.length:=by omega);(have b:zK (u=Dv.combO O (List.replicate cols 0) ay rows):=by have:=T.o;rw[List.drop_eq_nil_of_le zn] at this;rw[<- this];show u=Dv.combO O u _ [];cases List.drop rows.length ay<;>rfl);go_wp2;go_ret;exact⟨⟨g,rfl,by rw[<- b.o];exact HR.o,by rw[<- b.o];exact E,by rw[<- b.o];exact t.o⟩,y.o.below⟩
structure RCode (p m:Nat) (md:LN) (A:OA) (n cols:Nat) (rows:LL) (Ah:OA) (w:Wo):Prop where
 fld:RFld p m md A n w.heap.size w
 ft:∃l,FT p m md l
 at_:zR w Ah (nzs rows)
 grid:Grid (p^m) rows.length cols rows
 n1:1<=cols
 n2:cols<=64
 len:rows.length<=256
def cwO(p m:Nat)(md:LN)(cols:Nat)(rows:LL)(msg:LN):LN:=Dv.combO (refOps p m md) (List.replicate cols 0) msg rows
section
variable {p m:Nat} {md:LN} {A:OA} {n cols:Nat} {rows:LL} {Ah:OA} {w W:Wo}
theorem RCode.lift(h:RCode p m md A n cols rows Ah w)(b:zB w W):RCode p m md A n cols rows Ah W:=
 ⟨(h.fld.keep b).more b.size,h.ft,(h.at_.keep b).more b.size,h.grid,h.n1,h.n2,h.len⟩
theorem RCode.q2(h:RCode p m md A n cols rows Ah w):2<=p^m/\p^m<=256:=
 ⟨Nat.le_trans h.fld.small.p1 (Nat.le_self_pow (by have:=h.fld.small.m1;omega) _),h.fld.small.q⟩
theorem RCode.order(h:RCode p m md A n cols rows Ah w)(c:Nat)(W:Wo):zC 33 #[C6 p m A n c] W fun e w'=>e=.returned (Y ((p^m:Nat):Int))/\zB W w':=by have d:=h.fld.small.q;have b:=qbX h.fld.small.p1 h.fld.small.p2 h.fld.small.m1 h.fld.small.m2;rw[if_neg U0] at b;rw[<- b];exact rorder_c p m A n c W
theorem RCode.comb(h:RCode p m md A n cols rows Ah w)(d:LN)(f:OA)(c j ch:Nat)(l:zI w f (nz d))(i:∀x∈d,x<p^m)(k:d.length=rows.length):
 zC 23 #[C6 p m A n c,zL f rows.length j,zL Ah rows.length ch,Y cols] w fun e w'=>(∃g,e=.returned (zS g cols cols)/\Row w' w.heap.size g cols (nz (cwO p m md cols rows d))/\(cwO p m md cols rows d).length=cols/\∀x∈cwO p m md cols rows d,x<p^m)/\zB w w':=by have b:=h.n2;have:=rcombine_c p m md A n c d rows f j Ah ch cols w h.fld h.ft l i h.at_ h.grid k U0 h.len;rw[k] at this;exact this
end
section
variable {w:Wo} {cs:List Value} {t:TypeId} {W:Wo}
theorem BX.wrote(h:BX w cs t W){g k:Nat}(b:w.heap.size<g)(u:Value):BX w cs t (W.setCell (zA g k) u):=
 ⟨(Below.heap_setCell W (zA g k) u w.heap.size (by show w.heap.size≠g;omega)).trans h.1,h.2.1.setCell (p:=(zA g k)) (Nat.le_of_lt b) u,by simpa using h.2.2⟩
theorem BX.field{a b c:Value}{l:List Value}(h:BX w (a :: b :: c :: l) t W):W.rangeAt w.heap.size 0 [a,b,c]:=fun j u hu=>by
 match j,hu with
 |0,hu=>exact h.range 0 u hu
 |1,hu=>exact h.range 1 u hu
 |2,hu=>exact h.range 2 u hu
 |j+3,hu=>simp at hu
end
theorem i64_nat{x:Nat}(h:x<=65536):IntKind.i64.wrap (x:Int)=(x:Int):=IntWalk.i64_in _ U0
def RelAtt(w:Wo)(cs:List Value)(g k q i0:Nat)(v1 v7:Value)(wr:Wo):Prop:=
 ∃(j n':Nat)(t:LN),v1=Y n'/\v7=Y ((j:Int)-1)/\n'<=i0/\t.length+j=k/\Dv.digsBE q j n'++t=Dv.digsBE q k i0/\BX w cs 32 wr/\Row wr (w.heap.size+1) g k (nz (List.replicate j 0++t))
theorem rep_set(j x:Nat)(t:LN):(List.replicate (j+1) 0++t).set j x=List.replicate j 0++(x :: t):=by rw[List.replicate_succ',List.append_assoc,List.set_append];simp
theorem at_c{p m:Nat}{md:LN}{A:OA}{n cols:Nat}{rows:LL}{Ah:OA}{w:Wo}(h:RCode p m md A n cols rows Ah w)(c ch i:Nat)(hi:i<=65536):
 zC 40 #[Ca p m A n c cols Ah rows.length ch,Y i] w fun e w'=>(∃g,e=.returned (zS g cols cols)/\Row w' w.heap.size g cols (nz (cwO p m md cols rows (Dv.digsBE (p^m) rows.length i)))/\(cwO p m md cols rows (Dv.digsBE (p^m) rows.length i)).length=cols)/\zB w w':=by
 have f:=zH (bx_new w (C2 p m A n c cols Ah rows.length ch) 32);have HO:=zH<|fun W=>h.order c W
 have ak:=h.len;obtain⟨q2,q3⟩:=h.q2
 have HC:zK (∀(msg:LN)(g:Nat)(W:Wo),zB w W->Row W (w.heap.size+1) g rows.length (nz msg)->(∀x∈msg,x<p^m)->msg.length=rows.length->zC 23 #[C6 p m A n c,zS g rows.length rows.length,zL Ah rows.length ch,Y cols] W fun e w'=>(∃g,e=.returned (zS g cols cols)/\Row w' W.heap.size g cols (nz (cwO p m md cols rows msg))/\(cwO p m md cols rows msg).length=cols/\∀x∈cwO p m md cols rows msg,x<p^m)/\zB W w'):=fun msg g W hW hr hm hl=>
  (h.lift hW).comb msg _ c _ ch (row_ints hr) hm hl
 obtain⟨i0,S,U,V,X⟩:=qaF infoInt;have HI:=zH S;have N:=zH U;have O:=zH V;have H:=zH (show i0.bytes*rows.length<=281474976710656 by rw[X];omega);have s:=zH (show rows.length<=maxLen by unfold maxLen;omega);clear h S U V X;generalize cwO p m md cols rows=cw at *;generalize p^m=q at *;generalize rows.length=k at *;have ar:((q:Int)==0)=false:=beq_false_of_ne U0;have an:¬(q:Int)=0:=U0;have ao:¬q=0:=U0;go_enter func40,ntmps40;go_upto_region 1 with fail;have B:w.heap.size+1<=(w.alloc (C9 p m A n c cols Ah k ch)).heap.size:=U2;generalize w.alloc (C9 p m A n c cols Ah k ch)=W0 at *;have u:=zH f.o.field;have J:=zH (HO.o W0);go_wp2_with (refine wpList_load_mid rfl 29 (.tmp 8) rfl w.heap.size 0 rfl (C7 p m A n c) _ u.o underlying29 rfl fieldSize ?_);refine J.o.mono ?_;rintro e Z ⟨rfl,d⟩;have E:=zH (f.o.grow d);have l:=Nat.le_trans B d.size;have c4:Z.cell? (zA w.heap.size 4)=some (zL Ah k ch):=E.o.cell rfl;clear d f u J HO;clear B;clear W0;go_wp2_with (refine wpList_make_full Z rfl (.tmp 13) (.tmp 13) 23 rfl (w.heap.size+1) 3 i0 (Y 0) 1 underlying23 HI.o N.o O.o .i64 .i64 k k k rfl rfl rfl rfl H.o s.o l ?_;intro w2 y R);have d:=qaL R;have T:=Row.of_make y;have ax:IntKind.i64.wrap ((k:Int)-1)=(k:Int)-1:=IntWalk.i64_in _ U0;have M:zK (RelAtt w (C2 p m A n c cols Ah k ch) Z.heap.size k q i (Y (i:Int)) (Y ((k:Int)-1)) w2):=⟨k,i,[],rfl,rfl,Nat.le_refl _,U2,U2,E.o.grow d,by rw[List.append_nil];exact T⟩;clear y R d T E HI N O H s c4;have ae:zK (w.heap.size<Z.heap.size):=l;clear l;generalize Z.heap.size=go at *;go_wp2;go_loopw [1,7] (fun v1 v7 wr=>RelAtt w (C2 p m A n c cols Ah k ch) go k q i v1 v7 wr) (fun _ v7 _=>(intOf v7+1).toNat);case atStart=>exact M.o
 case round=>
  obtain⟨j,b,t,rfl,rfl,aq,au,Q,hx,z⟩:=hrel;have f:=zH hx;have K:=zH z;have HD:=zH Q;clear hx z Q M;cases j with
  |succ j=>
   have ej:((j+1:Nat):Int)-1=(j:Int):=U0;rw[ej];have al:=qaY b q;have aj:Int.tdiv (b:Int) (q:Int)=((b / q:Nat):Int):=rfl;have ap:b / q<=b:=Nat.div_le_self _ _;have j0:(0:Int)<=(j:Int):=U0;have j1:(j:Int)<(k:Int):=U0;have av:IntKind.i64.wrap ((j:Int)-1)=(j:Int)-1:=IntWalk.i64_in _ U0;have ai:b / q<=65536:=U0;have aw:=i64_nat ai;have L:=zH (K.o.set j ((b % q:Nat):Int));rw[qbC,rep_set] at L;have f0:=K.o.frozen j;have c0:=K.o.cell (j:=j) (by rw[qaA];simp;omega);have ah:=zH (f.o.wrote (k:=j) ae.o (Y ((b % q:Nat):Int)));(have aa:zK (Dv.digsBE q j (b / q)++(b % q :: t)=Dv.digsBE q k i):=by have h1:(Dv.digsBE q j (b / q)++[b % q])++t=Dv.digsBE q k i:=HD.o;rw[List.append_assoc] at h1;exact h1);generalize b / q=n2 at *;generalize b % q=r at *;go_wp2;go_roundw;case rel=>exact⟨j,n2,r :: t,rfl,U3,U0,so,aa.o,ah.o,L.o⟩
   case measure=>first|(simp[intOf];done)|(simp[intOf];omega)
  |zero=>have ej:((0:Nat):Int)-1=-1:=rfl;rw[ej];have P:=f.o.below;have ad:=zH (Dv.digsBE_lt (q:=q) U0 k i);have ac:=zH (Dv.digsBE_len q k i);have I:zK (t=Dv.digsBE q k i):=HD.o;have D:=zH K.o;rw[show List.replicate 0 0++t=t from rfl,I.o] at D;have C:=zH (HC.o _ go wr P D.o ad.o ac.o);have u:=zH f.o.field;have c3:wr.cell? (zA w.heap.size 3)=some (Y (cols:Int)):=f.o.cell rfl;have c4:wr.cell? (zA w.heap.size 4)=some (zL Ah k ch):=f.o.cell rfl;clear HC K D HD I P;generalize v:Dv.digsBE q k i=dg at C;have ab:=zH v;clear v;go_wp2_with (refine wpList_load_mid rfl 29 (.tmp 31) rfl w.heap.size 0 rfl (C7 p m A n c) _ u.o underlying29 rfl fieldSize ?_);refine C.o.mono ?_;rintro e w3 ⟨⟨g3,rfl,hr3,hl3,_⟩,hb3⟩;have s:=zH (f.o.below.trans (hb3.mono f.o.below.size));have ag:=zH (hr3.base (Nat.le_trans f.o.below.size hr3.lt.1));have af:=zH hl3;clear hb3 hr3 hl3 C;go_wp2;go_ret;rw[ab.o];exact⟨⟨g3,rfl,ag.o,af.o⟩,s.o⟩
theorem inV_nat{p m:Nat}{md:LN}{A:OA}{n cols:Nat}{rows:LL}{f:OA}{w:Wo}(h:RCode p m md A n cols rows f w)(x:Int):∃y:Nat,inV p m x=(y:Int)/\y<p^m:=by
 have d:=h.fld.small.q;have c:=qbX h.fld.small.p1 h.fld.small.p2 h.fld.small.m1 h.fld.small.m2;rw[if_neg U0] at c;obtain⟨q2,_⟩:=h.q2;unfold inV;rw[c];generalize p^m=q at *;by_cases b:inB (q:Int) x=true
 . rw[if_pos b];unfold inB at b;rw[Bool.and_eq_true,decide_eq_true_eq,decide_eq_true_eq] at b;exact⟨x.toNat,U0,U0⟩
 . rw[if_neg b];exact⟨0,rfl,U0⟩
def RelOf(w:Wo)(cs:List Value)(g k q:Nat)(v6:Value)(wr:Wo):Prop:=
 ∃(i:Nat)(l:LN),i<=k/\v6=Y i/\BX w cs 32 wr/\Row wr (w.heap.size+1) g k (nz l)/\l.length=k/\∀x∈l,x<q
def OSc(w:Wo)(cs:List Value)(bz oz i:Nat)(x:Int)(W:Wo):Prop:=BX w cs 32 W/\W.cell? (zA bz (oz+i))=some (Y x)
theorem rof_c{p m:Nat}{md:LN}{A:OA}{n cols:Nat}{rows:LL}{Ah:OA}{w:Wo}(h:RCode p m md A n cols rows Ah w)(c ch:Nat)(zs:LI)(Az:OA)(cz:Nat)(hz:zI w Az zs)(ay:zs.length<=9223372036854775807):
 zC 12 #[Ca p m A n c cols Ah rows.length ch,zL Az zs.length cz] w fun e w'=>(∃(g:Nat)(msg:LN),e=.returned (zS g cols cols)/\msg.length=rows.length/\(∀x∈msg,x<p^m)/\Row w' w.heap.size g cols (nz (cwO p m md cols rows msg))/\(cwO p m md cols rows msg).length=cols)/\zB w w':=by
 have b:=zH (bx_new w (C2 p m A n c cols Ah rows.length ch) 32);have v:=zH<|inV_nat h
 have C:=zH<|fun x W=>rinG_c p m A n c x W
 have HZ:=zH hz;have aq:=h.len;obtain⟨q2,q3⟩:=h.q2
 have O:zK (∀(msg:LN)(g:Nat)(W:Wo),zB w W->Row W (w.heap.size+1) g rows.length (nz msg)->(∀x∈msg,x<p^m)->msg.length=rows.length->zC 23 #[C6 p m A n c,zS g rows.length rows.length,zL Ah rows.length ch,Y cols] W fun e w'=>(∃g,e=.returned (zS g cols cols)/\Row w' W.heap.size g cols (nz (cwO p m md cols rows msg))/\(cwO p m md cols rows msg).length=cols/\∀x∈cwO p m md cols rows msg,x<p^m)/\zB W w'):=fun msg g W X hr hm hl=>
  (h.lift X).comb msg _ c _ ch (row_ints hr) hm hl
 obtain⟨i0,ac,af,ag,ah⟩:=qaF infoInt;have HI:=zH ac;have U:=zH af;have V:=zH ag;have N:=zH (show i0.bytes*rows.length<=281474976710656 by rw[ah];omega);have f:=zH (show rows.length<=maxLen by unfold maxLen;omega);clear h hz ac af ag ah;generalize cwO p m md cols rows=cw at *;generalize p^m=q at *;generalize rows.length=k at *;generalize inV (p:Int) (m:Int)=iv at *;go_enter func12,ntmps12;go_upto_region 1 with fail;have u:w.heap.size+1<=(w.alloc (C9 p m A n c cols Ah k ch)).heap.size:=U2;generalize w.alloc (C9 p m A n c cols Ah k ch)=M at *;have c4:M.cell? (zA w.heap.size 4)=some (zL Ah k ch):=b.o.cell rfl;go_wp2_with (refine wpList_make_full M rfl (.tmp 9) (.tmp 9) 23 rfl (w.heap.size+1) 3 i0 (Y 0) 1 underlying23 HI.o U.o V.o .i64 .i64 k k k rfl rfl rfl rfl N.o f.o u ?_;intro w1 D ab);have Z:=qaL ab;have ae:=Row.of_make D;have S:zK (RelOf w (C2 p m A n c cols Ah k ch) M.heap.size k q (Y ((0:Nat):Int)) w1):=⟨0,List.replicate k 0,Nat.zero_le _,rfl,b.o.grow Z,ae,U2,fun x hx=>by rw[List.mem_replicate] at hx;omega⟩;clear D ab Z ae b HI U V N f c4;have ai:zK (w.heap.size<M.heap.size):=u;clear u;generalize M.heap.size=go at *;clear M;go_wp2;go_loopw [6] (fun v6 wr=>RelOf w (C2 p m A n c cols Ah k ch) go k q v6 wr) (fun v6 _=>k-(intOf v6).toNat);case atStart=>exact S.o
 case round =>
  obtain⟨i,l,au,rfl,hx,E,t,ad⟩:=hrel;have b:=zH hx;have B:=zH E;have s:=zH ad;clear hx E ad S;by_cases av:i<k
  . (have k0 : (0 : Int) <= (i : Int) := by omega);have k1:(i:Int)<(k:Int):=U0;by_cases ao:i<zs.length
    . (have k2 : (i : Int) < (zs.length : Int) := by omega);have aw:IntKind.i64.wrap ((i:Int)+1)=(i:Int)+1:=IntWalk.i64_in _ U0;obtain ⟨bz,oz,rfl,ar,an⟩:=(HZ.o.keep b.o.below).at_ (k:=i) ao;generalize zs.getD i 0=x at *;obtain ⟨y,hy,ap⟩:=v.o x;(have P:zK (∀ W:Wo,zC 22 #[C6 p m A n c,Y x] W fun e w'=>e=.returned (Y (y:Int))/\zB W w'):=fun W=>by rw [<- hy];exact C.o x W);clear hy C v O;generalize zs.length=ax at *;have R:zK (OSc w (C2 p m A n c cols Ah k ch) bz oz i x wr.drew):=⟨b.o.grow zV.drew,an⟩;have I:=zH (B.o.below (Below.refl _ wr).drew B.o.lt.2);go_upto_region 5 with fail;refine qaS 9 9 (OSc w (C2 p m A n c cols Ah k ch) bz oz i x) [(1,0),(1,1),(1,2),(0,3),(1,4),(1,5),(1,6),(0,7),(2,8)] default U1 U1 (fun _ _ d _ _ h=>by cases d <;> exact h) R.o ?_;generalize wr.drew=Wd at *;simp only [List.map_cons,List.map_nil,List.getD_cons_zero,List.getD_cons_succ]
      iterate 3
       apply qaM rfl
       . intro W
         go_simp
         rfl
       go_simp
      refine qaT rfl 29 (.tmp 25) rfl w.heap.size 0 rfl (C7 p m A n c) _ (fun W X=>X.1.field) underlying29 rfl fieldSize ?_;go_simp
      iterate 3
       apply qaM rfl
       . intro W
         go_simp
         rfl
       go_simp
      apply qbF rfl
      . intro W X;have z0:=X.2;go_simp;rfl
      go_simp;apply qbE rfl
      . go_simp;exact⟨rfl,rfl⟩
      (with_reducible refine(P.o Wd).mono ?_);rintro e w2 ⟨rfl,hb2⟩;have T:=zH (R.o.1.grow hb2);have J:=zH (I.o.below hb2 I.o.lt.2);have aa:=(hb2.cell (p:=(zA bz (oz+i))) (World.block_lt_of_cell? Wd _ R.o.2)).trans R.o.2;refine⟨_,rfl,⟨T.o,aa⟩,?_⟩;go_simp;refine qbH ?_;show wpList _ _ _ _ _ _;go_simp;have f0:=J.o.frozen i;have c0:=J.o.cell (j:=i) (by rw[qaA];omega);have Q:=zH (J.o.set i (y:Int));rw[qbC] at Q;have al:=zH (T.o.wrote (k:=i) ai.o (Y (y:Int)));have aj:zK (∀z∈l.set i y,z<q):=fun z hz=>(List.mem_or_eq_of_mem_set hz).elim (s.o z) (fun h=>h ▸ ap);clear hb2 aa R I P B b;go_wp2;go_roundw;case rel=>exact⟨i+1,l.set i y,U0,U3,al.o,Q.o,by rw[List.length_set];exact t,aj.o⟩
      case measure=>simp[intOf];omega
    . (have k2:¬(i:Int)<(zs.length:Int):=by omega);have K:=zH b.o.field;have c3:wr.cell? (zA w.heap.size 3)=some (Y (cols:Int)):=b.o.cell rfl;have c4:wr.cell? (zA w.heap.size 4)=some (zL Ah k ch):=b.o.cell rfl;have r:=zH (O.o l go wr b.o.below B.o s.o t);have ak:=zH (B.o.lt);clear O B v C HZ;go_wp2_with (refine wpList_load_mid rfl 29 (.tmp 33) rfl w.heap.size 0 rfl (C7 p m A n c) _ K.o underlying29 rfl fieldSize ?_);refine r.o.mono ?_;rintro e w3 ⟨⟨g3,rfl,hr3,hl3,_⟩,hb3⟩;have f:=zH (b.o.below.trans (hb3.mono b.o.below.size));have L:=zH (hr3.base (Nat.le_trans b.o.below.size hr3.lt.1));have H:=zH hl3;clear hb3 hr3 hl3 r;go_wp2;go_ret;exact⟨⟨g3,l,rfl,t,s.o,L.o,H.o⟩,f.o⟩
  . (have k1:¬(i:Int)<(k:Int):=by omega);have K:=zH b.o.field;have c3:wr.cell? (zA w.heap.size 3)=some (Y (cols:Int)):=b.o.cell rfl;have c4:wr.cell? (zA w.heap.size 4)=some (zL Ah k ch):=b.o.cell rfl;have r:=zH (O.o l go wr b.o.below B.o s.o t);have ak:=zH (B.o.lt);clear O B v C HZ;go_wp2_with (refine wpList_load_mid rfl 29 (.tmp 33) rfl w.heap.size 0 rfl (C7 p m A n c) _ K.o underlying29 rfl fieldSize ?_);refine r.o.mono ?_;rintro e w3 ⟨⟨g3,rfl,hr3,hl3,_⟩,hb3⟩;have f:=zH (b.o.below.trans (hb3.mono b.o.below.size));have L:=zH (hr3.base (Nat.le_trans b.o.below.size hr3.lt.1));have H:=zH hl3;clear hb3 hr3 hl3 r;go_wp2;go_ret;exact⟨⟨g3,l,rfl,t,s.o,L.o,H.o⟩,f.o⟩
def wtAt(p m:Nat)(md:LN)(cols:Nat)(rows:LL)(i:Nat):Nat:=Dv.wt (cwO p m md cols rows (Dv.digsBE (p^m) rows.length i))
def RelLe(w:Wo)(cs:List Value)(f:Nat->Nat)(nn N:Nat)(v5 v6:Value)(wr:Wo):Prop:=
 ∃(i out:Nat),1<=i/\(i<=nn\/i=1)/\v6=Y i/\v5=Y out/\out<=N/\Dv.leastGo f (nn-i) i out=Dv.leastGo f (nn-1) 1 N/\BX w cs 32 wr
theorem least_step{f:Nat->Nat}{b i c r:Nat}(d:i<b)(h:Dv.leastGo f (b-i) i c=r):Dv.leastGo f (b-(i+1)) (i+1) (min c (f i))=r:=by have e:b-i=(b-(i+1))+1:=U0;rw[e] at h;exact h
theorem least_c{p m:Nat}{md:LN}{A:OA}{n cols:Nat}{rows:LL}{Ah:OA}{w:Wo}(h:RCode p m md A n cols rows Ah w)(c ch nn:Nat)(aa:nn<=65536):
 zC 21 #[Ca p m A n c cols Ah rows.length ch,Y nn] w fun e w'=>e=.returned (Y ((Dv.leastGo (wtAt p m md cols rows) (nn-1) 1 (cols+1):Nat):Int))/\zB w w':=by
 have H:=zH (bx_new w (C2 p m A n c cols Ah rows.length ch) 32);have Q:=h.n2;have C:zK (∀(i:Nat)(W:Wo),i<nn->zB w W->zC 40 #[Ca p m A n c cols Ah rows.length ch,Y i] W fun e w'=>(∃g,e=.returned (zS g cols cols)/\Row w' W.heap.size g cols (nz (cwO p m md cols rows (Dv.digsBE (p^m) rows.length i)))/\(cwO p m md cols rows (Dv.digsBE (p^m) rows.length i)).length=cols)/\zB W w'):=fun i W hi hW=>at_c (h.lift hW) c ch i U0;have E:zK (∀(i g:Nat)(W:Wo),(cwO p m md cols rows (Dv.digsBE (p^m) rows.length i)).length=cols->zI W (zO g) (nz (cwO p m md cols rows (Dv.digsBE (p^m) rows.length i)))->zC 11 #[zS g cols cols] W fun e w'=>e=.returned (Y ((wtAt p m md cols rows i:Nat):Int))/\W=w'):=fun i g W hl hi=>by have:=weight_c (cwO p m md cols rows (Dv.digsBE (p^m) rows.length i)) (zO g) cols W hi U0;rw[hl] at this;exact this
 have D:zK (∀i,(cwO p m md cols rows (Dv.digsBE (p^m) rows.length i)).length=cols->wtAt p m md cols rows i<=cols):=fun i hl=>by have:=rwt_le (cwO p m md cols rows (Dv.digsBE (p^m) rows.length i));rw[hl] at this;exact this
 clear h;generalize wtAt p m md cols rows=f at *;generalize (fun i=>cwO p m md cols rows (Dv.digsBE (p^m) rows.length i))=cw at *;generalize rows.length=k at *;go_enter func21,ntmps21;go_upto_region 1 with fail;generalize w.alloc (C9 p m A n c cols Ah k ch)=K at *;have P:K.cell? (zA w.heap.size 3)=some (Y (cols:Int)):=H.o.cell rfl;have J:IntKind.i64.wrap ((cols:Int)+1)=((cols+1:Nat):Int):=by rw[IntWalk.i64_in _ U0];rfl
 have u:zK (RelLe w (C2 p m A n c cols Ah k ch) f nn (cols+1) (Y ((cols+1:Nat):Int)) (Y 1) K):=⟨1,cols+1,Nat.le_refl _,.inr rfl,rfl,rfl,Nat.le_refl _,rfl,H.o⟩;go_wp2;go_loopw [5,6] (fun v5 v6 wr=>RelLe w (C2 p m A n c cols Ah k ch) f nn (cols+1) v5 v6 wr) (fun _ v6 _=>nn-(intOf v6).toNat);case atStart=>exact u.o
 case round =>
  obtain⟨i,b,T,U,rfl,rfl,B,y,N⟩:=hrel;have d:=zH N;have q:=zH y;clear N y u H J P;by_cases l:i<nn
  . (have Z : (i : Int) < (nn : Int) := by omega);have V:IntKind.i64.wrap ((i:Int)+1)=(i:Int)+1:=IntWalk.i64_in _ U0;have t:=zH d.o.range;have s:=zH (C.o i wr l d.o.below);have j:=zH (least_step l q.o);go_wp2_with (refine wpList_load_mid rfl 32 (.tmp 2) rfl w.heap.size 0 rfl (C2 p m A n c cols Ah k ch) _ t.o underlying32 rfl codeSize ?_);refine s.o.mono ?_;rintro e w3 ⟨⟨g3,rfl,hr3,hl3⟩,hb3⟩;have x:=zH (d.o.grow hb3);have v:=zH (E.o i g3 w3 hl3 (row_ints hr3));have S:=D.o i hl3;clear hb3 hr3 hl3 s t d;generalize R:f i=r at *;go_wp2_with fail;refine v.o.mono ?_;rintro e w4 ⟨rfl,rfl⟩;clear v;by_cases z:b<=r
    . rw[Nat.min_eq_left z] at j;have I:(b:Int)<=(r:Int):=U0;go_wp2;go_roundw;case rel=>exact⟨i+1,b,U0,.inl l,U3,rfl,B,j.o,x.o⟩
      case measure=>simp[intOf];omega
    . rw[Nat.min_eq_right U0] at j;have I:¬(b:Int)<=(r:Int):=U0;have L:(r:Int)<=(b:Int):=U0;have M:(r:Int)<(b:Int):=U0;go_wp2;go_roundw;case rel=>exact⟨i+1,r,U0,.inl l,U3,rfl,U0,j.o,x.o⟩
      case measure=>simp[intOf];omega
  . (have X:nn-i=0:=by omega);(have O:zK (b=Dv.leastGo f (nn-1) 1 (cols+1)):=by have:=q.o;rw[X] at this;exact this);have Z:¬(i:Int)<(nn:Int):=U0;clear q;go_wp2;go_ret;exact⟨qaG (by rw[O.o]),d.o.below⟩
theorem SB.code{w:Wo}{b:Nat}{d:StD}{f Ag l i k o q Ar As At:OA}{g cg r ca cb cp s t c u:Nat}{W:Wo}(h:SB w b (stCells d f Ag l i k o q Ar As At g cg r ca cb cp s t c u) W):W.rangeAt b 1 (C2 d.p d.m f d.mod.length g d.n Ag d.gen.length cg):=
 h.sub 1 _ (fun j hj=>by rcases j with _|_|_|_|_|j<;>first|rfl|(simp at hj;omega))
theorem qfR{d:StD}(q:codeZ d.p d.m d.mod d.n d.gen=0):fieldOK d.p d.m d.mod=true/\1<=d.n/\d.n<=64/\nzs (natR d.gen)=d.gen/\Grid (d.p.toNat^d.m.toNat) (natR d.gen).length d.n.toNat (natR d.gen)/\d.gen.length<=256:=by
 obtain⟨g,b,c⟩:=codeZ_n q;have h:1<=d.n/\d.n<=64:=by
  unfold lengthZ at b;split at b
  . cases b
  . omega
 have f:errC d.p d.m d.mod d.n d.gen=0:=by
  unfold spZ at c;split at c
  . rename_i he;exact absurd c he
  . rename_i he;exact Classical.byContradiction he
 unfold errC at f;rw[if_pos g] at f;obtain⟨i,j,l,o,k⟩:=check_grid f;exact⟨g,h.1,h.2,i,j,k⟩
theorem code_nat{d:StD}{w:Wo}{s A:OA}(v:codeZ d.p d.m d.mod d.n d.gen=0)(u:zI w s d.mod)(t:zR w A d.gen):
 RCode d.p.toNat d.m.toNat (mdOf d.m d.mod) s d.mod.length d.n.toNat (natR d.gen) A w/\((d.p.toNat:Nat):Int)=d.p/\((d.m.toNat:Nat):Int)=d.m/\((d.n.toNat:Nat):Int)=d.n/\(natR d.gen).length=d.gen.length:=by
 obtain⟨b,q,r,l,k,g⟩:=qfR v;have o:shapeM d.p d.m d.mod=true:=by unfold fieldOK at b;rw[Bool.and_eq_true] at b;exact b.1
 have c:=shape_is o;have j:=field_ft b;have h:(mdOf d.m d.mod).length=d.m.toNat:=by
  by_cases f:d.m=1
  . rw[f];simp[mdOf]
  . unfold mdOf;rw[if_neg f,List.length_map];exact c.len f
 have i:RFld d.p.toNat d.m.toNat (mdOf d.m d.mod) s d.mod.length w.heap.size w:=⟨c.small,h,c.lt,fun h2=>by
  have f:d.m≠1:=by intro e;rw[e] at h2;exact absurd h2 dc
  exact⟨c.len f,by rw[c.nat f];exact u⟩⟩
 exact⟨⟨i,⟨_,j⟩,by rw[l];exact t,k,U0,U0,by rw[natR_len];exact g⟩,c.p0,c.m0,U0,natR_len _⟩
section
variable {P:Program} {ops:Array Oper} {S:Wo->Prop}
theorem keep_gload_mid{Q:Act->Prop}{a:Act}{o:Oper}{rest:List Oper}(i:Region.wanted o (yielded ops a.tmps)=true)(f:TypeId)(x:Operand)(k:o.op=.load f x)(b c:Nat)(m:a.eval x=.pointer (some (zA b c)))(cs:List Value)(d:TypeDesc)(g:∀w,S w->w.rangeAt b c cs)(l:P.underlying f=some d)(hd:d.isRow=true)(j:(P.info? f).map (·.size)=some cs.length)(h:wpKeep P ops S Q rest (a.put o.dst (.agg cs.toArray))):wpKeep P ops S Q (o :: rest) a:=
 qbD i (fun W hW=>by
  unfold execOp
  simp only[k,m,Instr.loadAt,Instr.sureAddr,Sem.run_bind,Sem.run_pure,Result.andThen_ok,run_loadVar_mid W b c f cs d (g W hW) l hd j]) h
end
def TrueOk(d:StD):Prop:=d.low<=((Dv.leastGo (wtAt d.p.toNat d.m.toNat (mdOf d.m d.mod) d.n.toNat (natR d.gen)) ((d.p.toNat^d.m.toNat)^d.gen.length-1) 1 (d.n.toNat+1):Nat):Int)
theorem cn_exp{d:StD}(k:codeZ d.p d.m d.mod d.n d.gen=0):∃ nn:Nat,cnV d.p d.m d.mod d.n d.gen 1024=(nn:Int)/\nn<=1024/\(0<nn->nn=(d.p.toNat ^ d.m.toNat) ^ d.gen.length):=by
 have i:szE d.p d.m d.mod d.n d.gen=expE (d.p.toNat^d.m.toNat) d.gen.length:=by unfold szE;rw[if_neg (fun h=>h k)]
 have j:szV d.p d.m d.mod d.n d.gen=expV (d.p.toNat^d.m.toNat) d.gen.length:=by unfold szV;rw[if_neg (fun h=>h k)]
 unfold cnV;rw[i,j];generalize d.p.toNat^d.m.toNat=q;by_cases c:expE q d.gen.length≠0\/1024<expV q d.gen.length
 . rw[if_pos c];exact⟨0,rfl,U0,U0⟩
 . rw[if_neg c];have f:¬expE q d.gen.length≠0:=fun h=>c (.inl h);have g:¬1024<expV q d.gen.length:=fun h=>c (.inr h);unfold expE at f;by_cases b:q^d.gen.length<=65536
   . unfold expV at g ⊢;rw[if_pos b] at g ⊢;exact⟨q^d.gen.length,rfl,U0,fun _=>rfl⟩
   . rw[if_neg b] at f;exact absurd (show(8:Int)≠0 by decide) f
theorem true_c(d:StD)(cs:List Value)(w:Wo)(h:StC w w.heap.size d cs)(hk:d.ok)(hz:codeZ d.p d.m d.mod d.n d.gen=0):
 zC 10 #[.agg cs.toArray] w fun e w'=>∃b,e=.returned (.bool b)/\zB w w'/\(b=true->TrueOk d):=by
 obtain⟨q,l,B,z,A,C,D,Ar,E,At,j,i,I,ca,cb,cp,J,K,k,L,rfl,_,S,T,h3,h4,h5⟩:=h;have H:=zH (sb_new w (stCells d q l B z A C D Ar E At j i I ca cb cp J K k L));have O:=zH S;have M:=zH T;obtain⟨k1,k2,_⟩:=hk;have e:maxLen=9223372036854775807:=rfl;have aa:=(qfR hz).2.2.2.2.2
 have N:=zH<|fun W hW=>
  count_c d.p d.m d.mod q j d.n d.gen l i 1024 W ((O.o.keep hW).more hW.size) U0 ((M.o.keep hW).more hW.size) U0
 have R:zK (∀(f:Nat)(W:Wo),f<=65536->zB w W->zC 21 #[Ca d.p d.m q d.mod.length j d.n l d.gen.length i,Y f] W fun e w'=>e=.returned (Y ((Dv.leastGo (wtAt d.p.toNat d.m.toNat (mdOf d.m d.mod) d.n.toNat (natR d.gen)) (f-1) 1 (d.n.toNat+1):Nat):Int))/\zB W w'):=fun f W y hW=>by obtain⟨Q,Z,e2,e3,e4⟩:=code_nat hz ((O.o.keep hW).more hW.size) ((M.o.keep hW).more hW.size);have:=least_c Q j i f y;rw[Z,e2,e3,e4] at this;exact this
 obtain⟨f,v,y,x⟩:=cn_exp hz;rw[v] at N;have U:zK (0<f->d.low<=((Dv.leastGo (wtAt d.p.toNat d.m.toNat (mdOf d.m d.mod) d.n.toNat (natR d.gen)) (f-1) 1 (d.n.toNat+1):Nat):Int)->TrueOk d):=fun P hle=>by rw[x P] at hle;exact hle
 have r:=zH (fun W hW=>R.o f W U0 hW);clear R v x hz S T h3 h4 h5 k1 k2 O M;generalize ((Dv.leastGo (wtAt d.p.toNat d.m.toNat (mdOf d.m d.mod) d.n.toNat (natR d.gen)) (f-1) 1 (d.n.toNat+1):Nat):Int)=lv at *;go_enter func10,ntmps10;go_upto_region 1 with fail;generalize w.alloc (.cells (stCells d q l B z A C D Ar E At j i I ca cb cp J K k L).toArray 40)=V at *;have u:=zH<|H.o.code
 have t:=zH (N.o V H.o.2.1);go_wp2_with (refine wpList_load_mid rfl 32 (.tmp 4) rfl w.heap.size 1 rfl (C2 d.p d.m q d.mod.length j d.n l d.gen.length i) _ u.o underlying32 rfl codeSize ?_);refine t.o.mono ?_;rintro e w1 ⟨rfl,hb1⟩;have g:=zH (H.o.grow hb1);clear hb1 H u t N;by_cases P:0<f
 . have X : decide ((0 : Int) < (f : Int)) = true := decide_eq_true U0;go_upto_region 2 with fail;refine qaD (SB w w.heap.size (stCells d q l B z A C D Ar E At j i I ca cb cp J K k L)) U1 U1 (g.o.grow zV.drew) ?_
   repeat (first
    | (refine keep_gload_mid rfl 32 (.tmp 12) rfl w.heap.size 1 rfl (C2 d.p d.m q d.mod.length j d.n l d.gen.length i) _ (fun W c => c.code) underlying32 rfl codeSize ?_
       go_simp)
    | (apply qaJ rfl
       . intro W c
         have y6:W.cell? (zA w.heap.size 6)=some (Y d.low):=c.cell rfl
         go_simp
         try rfl
       go_simp)
    | (apply qbD rfl
       . intro W c
         have y6:W.cell? (zA w.heap.size 6)=some (Y d.low):=c.cell rfl
         go_simp
         try rfl
       go_simp)
    | (apply qcG rfl
       . intro W c
         go_simp
         exact⟨rfl,rfl⟩
       . intro W c
         exact(r.o W c.2.1).mono (by rintro e w' ⟨rfl,hb⟩;exact⟨rfl,c.grow hb⟩)
       go_simp))
   refine qaE ?_;intro w2 c;have s:=zH c;clear c g r;go_wp2;go_ret;exact⟨_,rfl,s.o.2.1,fun hb=>U.o P (by simpa using hb)⟩
 . have X : decide ((0 : Int) < (f : Int)) = false := decide_eq_false U0;go_upto_region 2 with fail;refine qaD (SB w w.heap.size (stCells d q l B z A C D Ar E At j i I ca cb cp J K k L)) U1 U1 (g.o.grow zV.drew) ?_
   repeat (first
    | (apply qaJ rfl
       . intro W c
         go_simp
         try rfl
       go_simp)
    |(apply qbI rfl;go_simp))
   refine qaE ?_;intro w2 c;have s:=zH c;clear c g r;go_wp2;go_ret;exact⟨_,rfl,s.o.2.1,fun hb=>by simp at hb⟩
end Go.Proofs.YtkcdlealipfnbaaGreat
