/- Parts of the proof. -/
import Derived.Test.YtflejelbdlelpaaGreatR25
import Derived.Test.YtflejelbdlelpaaGreatR23
import Derived.Test.YtflejelbdlelpaaGreatR27
set_option maxRecDepth 100000
set_option maxHeartbeats 8000000
namespace Go.Proofs.YtflejelbdlelpaaGreat
open Go.RowKit Pln Go.Proofs.Tryz
def stepS(r low p m n:Int)(mod:LI)(gen:List LI):StD:=⟨r,p,m,mod,n,gen,low,[],[],0,0,0,0,0,0,0,0,0,0,0,0,0,[]⟩
def stepC(r low p m n:Int)(mod:LI)(gen:List LI)(Am Ag:OA)(cm cg:Nat):List Value:=stCells (stepS r low p m n mod gen) Am Ag none none none none none none none none cm cg 0 0 0 0 0 0 0 0
theorem step_stc{r low p m n:Int}{mod:LI}{b:List LI}{c Ag:OA}{d cg:Nat}{w:Wo}{B:Nat}(g:b.length<=cg)(f:IntsAt w B c mod)(h:RowsAt w B Ag b):StC w B (stepS r low p m n mod b) (stepC r low p m n mod b c Ag d cg):=
 ⟨c,Ag,none,none,none,none,none,none,none,none,d,cg,0,0,0,0,0,0,0,0,rfl,g,f,h,fun h=>absurd h (by simp[stepS]),fun h=>absurd h (by simp[stepS]),fun h=>absurd h (by simp[stepS])⟩
theorem step_ok{r low p m n:Int}{mod:LI}{b:List LI}(c:mod.length<=maxLen)(d:b.length<=maxLen):(stepS r low p m n mod b).ok:=by unfold StD.ok stepS;unfold maxLen at *;simp;exact⟨c,d⟩
theorem follows_s(r low p m n:Int)(mod:LI)(j:List LI)(k Ag:OA)(l cg:Nat)(w:Wo)(s:Bool)(q:∀W:Wo,zB w W->zC 28 #[.agg (stepC r low p m n mod j k Ag l cg).toArray] W (BPost s W)):
 zC 20 #[.agg (stepC r low p m n mod j k Ag l cg).toArray,zL none 0 0] w (BPost s w):=by have d:=zH (sb_new w (stepC r low p m n mod j k Ag l cg));have b:=zH q;clear q;go_enter func20,ntmps20;go_upto_region 1 with fail;generalize w.alloc (.cells (stepC r low p m n mod j k Ag l cg).toArray 37)=h at *;have c:=zH d.o.range;have g:=zH (b.o h d.o.2.1);clear b;go_wp2_with (refine wpList_load_mid rfl 37 (.tmp 2) rfl w.heap.size 0 rfl (stepC r low p m n mod j k Ag l cg) _ c.o underlying37 rfl stepSize ?_);go_fit g.o;rintro e i ⟨rfl,hb⟩;have f:=zH (d.o.grow hb);clear hb g d c;go_wp2;go_ret;exact⟨rfl,f.o.2.1⟩
theorem checkstep_s(r low p m n:Int)(mod:LI)(H:List LI)(I Ag:OA)(J cg:Nat)(X:∀ W:Wo,zC 19 #[Y r] W fun e w'=>e=.returned (Y 0)/\W=w')(N:¬ r=14)(O:¬ r=18)(h0:¬ r<0)(Z:¬ 20<=r)(V:formZ (stepS r low p m n mod H)=0)(b o:Nat)(w:Wo)(L:w.rangeAt b o (stepC r low p m n mod H I Ag J cg))(_:b<w.heap.size)(U:zI w I mod)(R:mod.length<=maxLen)(T:zR w Ag H)(Q:H.length<=maxLen)(P:H.length<=cg)(M:Bool)(K:∀ W:Wo,zB w W->zC 28 #[.agg (stepC r low p m n mod H I Ag J cg).toArray] W (BPost M W)):
 zC 10 #[zL (some (zA b o)) 1 1,Y 0] w (ChkPost M w):=by
 have q:=zH (sb_new w (stepC r low p m n mod H I Ag J cg));have k:=zH L;have v:zK (∀W:Wo,zB w W->zC 18 #[.agg (stepC r low p m n mod H I Ag J cg).toArray] W fun e w'=>e=.returned (Y (formZ (stepS r low p m n mod H)))/\zB W w'):=fun W hW=>formed_g (stepS r low p m n mod H) (stepC r low p m n mod H I Ag J cg) W (step_stc P ((U.keep hW).more hW.size) ((T.keep hW).more hW.size)) (step_ok R Q);have z:=zH X;have s:=zH K;have x:=zH V;have j:zK ((stepC r low p m n mod H I Ag J cg).toArray.all (·.oneCell')=true):=by show _=_;simp[stepC,stCells,Value.oneCell']
 have B:(r==14)=false:=beq_false_of_ne N;have C:(r==18)=false:=beq_false_of_ne O;clear L T U X K V;go_enter func10,ntmps10
 go_upto_region 6 with(first
  |(refine wpList_load_mid rfl 37 (.tmp 25) rfl b o rfl (stepC r low p m n mod H I Ag J cg) _ k.o underlying37 rfl stepSize ?_)
  |(refine qaH rfl 37 (.tmp 5) (.tmp 26) rfl w _ (stepC r low p m n mod H I Ag J cg).toArray rfl rfl stepSize rfl j.o ?_))
 generalize w.alloc (.cells (stepC r low p m n mod H I Ag J cg).toArray 37)=A at *;have d:=zH q.o.range;have g:=zH (v.o A q.o.2.1);rw[x.o] at g;go_wp2_with (refine wpList_load_mid rfl 37 (.tmp 5) rfl w.heap.size 0 rfl (stepC r low p m n mod H I Ag J cg) _ d.o underlying37 rfl stepSize ?_);refine g.o.mono ?_;rintro e D ⟨rfl,hb1⟩;have h:=zH (q.o.grow hb1);clear hb1 q v g d k x;have t:D.cell? (zA w.heap.size 0)=some (Y r):=h.o.cell rfl;go_upto_region 11 with fail;refine qaD (SB w w.heap.size (stepC r low p m n mod H I Ag J cg)) U1 U1 (h.o.grow zV.drew) ?_
 repeat (first
  | (apply qaJ rfl
     . intro W f
       have t:W.cell? (zA w.heap.size 0)=some (Y r):=f.cell rfl
       have u:W.cell? (zA w.heap.size 7)=some (zL none 0 0):=f.cell rfl
       go_simp
       try rfl
     go_simp)
  | (apply qbD rfl
     . intro W f
       have t:W.cell? (zA w.heap.size 0)=some (Y r):=f.cell rfl
       have u:W.cell? (zA w.heap.size 7)=some (zL none 0 0):=f.cell rfl
       go_simp
       try rfl
     go_simp)
  | (apply qaO rfl
     . intro W f
       go_simp
       exact⟨rfl,rfl⟩
     . intro W f
       exact(z.o W).mono (by rintro e w' ⟨rfl,rfl⟩;exact⟨rfl,f⟩)
     go_simp)
  |(apply qbI rfl;go_simp))
 refine qaE ?_;intro y f;have c:=zH f;clear f h t;have u:y.cell? (zA w.heap.size 7)=some (zL none 0 0):=c.o.cell rfl;go_upto_region 15 with fail;go_loop [7,66] (fun v7 v66=>v7=zL none 0 0/\v66=Y 0) (fun _ _=>0);case atStart=>exact⟨rfl,rfl⟩
 case round=>
  obtain⟨rfl,rfl⟩:=hrel;go_upto_region 22 with fail;go_loop [87] (fun v87=>v87=Y 0) (fun _=>0);case atStart=>rfl
  case round=>
   subst hrel;have d:=zH c.o.range;have i:=zH (follows_s r low p m n mod H I Ag J cg y M (fun W hW=>s.o W (c.o.2.1.trans (hW.mono c.o.2.1.size))));go_wp2_with (refine wpList_load_mid rfl 37 (.tmp 5) rfl w.heap.size 0 rfl (stepC r low p m n mod H I Ag J cg) _ d.o underlying37 rfl stepSize ?_);go_fit i.o;rintro e E ⟨rfl,hb⟩;have l:=zH (c.o.grow hb);clear hb i d c u;cases M
   . go_wp2;go_ret;exact⟨rfl,l.o.2.1⟩
   . go_wp2;go_ret;exact⟨rfl,l.o.2.1⟩
theorem cn_pos{d:StD}(k:codeZ d.p d.m d.mod d.n d.gen=0)(o:(d.p.toNat^d.m.toNat)^d.gen.length<=1024){l:Nat}(j:cnV d.p d.m d.mod d.n d.gen 1024=(l:Int)):0<l:=by
 have c:szE d.p d.m d.mod d.n d.gen=expE (d.p.toNat^d.m.toNat) d.gen.length:=by unfold szE;rw[if_neg (fun h=>h k)]
 have f:szV d.p d.m d.mod d.n d.gen=expV (d.p.toNat^d.m.toNat) d.gen.length:=by unfold szV;rw[if_neg (fun h=>h k)]
 have g:0<d.p.toNat^d.m.toNat:=by have i:=(Al.fld_of (field_ft (qfR k).1)).q1;omega
 unfold cnV at j;rw[c,f] at j;unfold expE expV at j;have b:(d.p.toNat^d.m.toNat)^d.gen.length<=65536:=U0;rw[if_pos b,if_pos b,if_neg U0] at j;have:=Nat.pow_pos (n:=d.gen.length) g;omega
theorem true_x(d:StD)(cs:List Value)(w:Wo)(h:StC w w.heap.size d cs)(hk:d.ok)(hz:codeZ d.p d.m d.mod d.n d.gen=0)(ab:(d.p.toNat ^ d.m.toNat) ^ d.gen.length<=1024):
 zC 5 #[.agg cs.toArray] w fun e w'=>∃b,e=.returned (.bool b)/\zB w w'/\(b=true->TrueOk d)/\(TrueOk d->b=true):=by
 obtain⟨k,j,C,A,B,D,E,Ar,H,At,i,g,N,ca,cb,cp,O,P,l,Q,rfl,_,U,V,h3,h4,h5⟩:=h;have z:=zH (sb_new w (stCells d k j C A B D E Ar H At i g N ca cb cp O P l Q));have K:=zH U;have I:=zH V;obtain⟨k1,k2,_⟩:=hk;have e:maxLen=9223372036854775807:=rfl;have aa:d.gen.length<=256:=(qfR hz).2.2.2.2.2
 have J:zK (∀W,zB w W->zC 4 #[C7 d.p d.m k d.mod.length i d.n j d.gen.length g,Y 1024] W fun e w'=>e=.returned (Y (cnV d.p d.m d.mod d.n d.gen 1024))/\zB W w'):=fun W hW=>
  count_c d.p d.m d.mod k i d.n d.gen j g 1024 W ((K.o.keep hW).more hW.size) U0 ((I.o.keep hW).more hW.size) U0
 have S:zK (∀(c:Nat)(W:Wo),c<=65536->zB w W->zC 9 #[C7 d.p d.m k d.mod.length i d.n j d.gen.length g,Y c] W fun e w'=>e=.returned (Y ((Dv.leastGo (wtAt d.p.toNat d.m.toNat (mdOf d.m d.mod) d.n.toNat (natR d.gen)) (c-1) 1 (d.n.toNat+1):Nat):Int))/\zB W w'):=fun c W y hW=>by obtain⟨R,Z,e2,e3,e4⟩:=code_nat hz ((K.o.keep hW).more hW.size) ((I.o.keep hW).more hW.size);have:=least_c R i g c y;rw[Z,e2,e3,e4] at this;exact this
 obtain⟨c,q,y,r⟩:=cn_exp hz;rw[q] at J;have X:zK (0<c->d.low<=((Dv.leastGo (wtAt d.p.toNat d.m.toNat (mdOf d.m d.mod) d.n.toNat (natR d.gen)) (c-1) 1 (d.n.toNat+1):Nat):Int)->TrueOk d):=fun s hle=>by rw[r s] at hle;exact hle
 have L:zK (0<c->TrueOk d->d.low<=((Dv.leastGo (wtAt d.p.toNat d.m.toNat (mdOf d.m d.mod) d.n.toNat (natR d.gen)) (c-1) 1 (d.n.toNat+1):Nat):Int)):=fun s hle=>by rw[r s];exact hle
 have s:=cn_pos hz ab q;have u:=zH (fun W hW=>S.o c W U0 hW);clear S q r hz ab U V h3 h4 h5 k1 k2 K I;generalize ((Dv.leastGo (wtAt d.p.toNat d.m.toNat (mdOf d.m d.mod) d.n.toNat (natR d.gen)) (c-1) 1 (d.n.toNat+1):Nat):Int)=lv at *;go_enter func5,ntmps5;go_upto_region 1 with fail;generalize w.alloc (.cells (stCells d k j C A B D E Ar H At i g N ca cb cp O P l Q).toArray 37)=T at *;have v:zK (T.rangeAt w.heap.size 1 (C3 d.p d.m k d.mod.length i d.n j d.gen.length g)):=z.o.code;have t:=zH (J.o T z.o.2.1);go_wp2_with (refine wpList_load_mid rfl 27 (.tmp 4) rfl w.heap.size 1 rfl (C3 d.p d.m k d.mod.length i d.n j d.gen.length g) _ v.o underlying27 rfl codeSize ?_);refine t.o.mono ?_;rintro e w1 ⟨rfl,hb1⟩;have x:=zH (z.o.grow hb1);clear hb1 z v t J;have d0:decide ((0:Int)<(c:Int))=true:=decide_eq_true U0;go_upto_region 2 with fail;refine qaD (SB w w.heap.size (stCells d k j C A B D E Ar H At i g N ca cb cp O P l Q)) U1 U1 (x.o.grow zV.drew) ?_
 repeat (first
  | (refine keep_gload_mid rfl 27 (.tmp 12) rfl w.heap.size 1 rfl (C3 d.p d.m k d.mod.length i d.n j d.gen.length g) _ (fun W f => f.code) underlying27 rfl codeSize ?_
     go_simp)
  | (apply qaJ rfl
     . intro W f
       have y6:W.cell? (zA w.heap.size 6)=some (Y d.low):=f.cell rfl
       go_simp
       try rfl
     go_simp)
  | (apply qbD rfl
     . intro W f
       have y6:W.cell? (zA w.heap.size 6)=some (Y d.low):=f.cell rfl
       go_simp
       try rfl
     go_simp)
  | (apply qcG rfl
     . intro W f
       go_simp
       exact⟨rfl,rfl⟩
     . intro W f
       exact(u.o W f.2.1).mono (by rintro e w' ⟨rfl,hb⟩;exact⟨rfl,f.grow hb⟩)
     go_simp))
 refine qaE ?_;intro w2 f;have M:=zH f;clear f x u;go_wp2;go_ret;exact⟨_,rfl,M.o.2.1,fun hb=>X.o s (by simpa using hb),fun ht=>by simpa using L.o s ht⟩
end Go.Proofs.YtflejelbdlelpaaGreat
namespace Go.Proofs.YtflejelbdlelpaaGreat
open Pln
namespace Al
section
variable {q:Nat} {O:Ops} {h:Fld q O}
structure Aut (h:Fld q O) (φ:El q O h->El q O h):Prop where
 add:∀x y,φ (x+y)=φ x+φ y
 mul:∀x y,φ (x*y)=φ x*φ y
 zero:φ 0=0
 inj:∀x,φ x=0->x=0
 onto:∀y,∃x,φ x=y
end
end Al
end Go.Proofs.YtflejelbdlelpaaGreat
namespace Go.Proofs.YtflejelbdlelpaaGreat
open Go.RowKit Pln Go.Proofs.Tryz
structure CD where
 p:Int
 m:Int
 mod:LI
 A:OA
 c:Nat
 n:Int
 gen:List LI
 G:OA
 g:Nat
structure CD.At (d:CD) (w:Wo):Prop where
 mod:zI w d.A d.mod
 gen:zR w d.G d.gen
 z:codeZ d.p d.m d.mod d.n d.gen=0
theorem codeSz:(prog.info? 27).map (·.size)=some 5:=U1
end Go.Proofs.YtflejelbdlelpaaGreat
namespace Go.Proofs.YtflejelbdlelpaaGreat
open Go.RowKit Go.ChangeShapes Go.WideShapes Go.Deep Go.Proofs.Tryz
section
variable {H:Type} {enc:TypeId × Value->H} {w:Wo} {base:Nat} {spare:Nat->Bool} {held:Bool}
theorem field_cells{q:Nat}{a b c:Value}{x:DataW H × List MemPlace}(h:DataW.trod enc prog w base spare held q 24 [a,b,c]=some x):
 ∃(p m:Int)(zs:LI)(A:OA)(k:Nat),a=Y p/\b=Y m/\c=zL A zs.length k/\zs.length<=maxLen/\zI w A zs:=by obtain⟨_,_,_,i⟩:=qaU underlying24 h 0 3 0 1 rfl cellsInt;obtain⟨_,_,_,j⟩:=qaU underlying24 h 1 3 1 1 rfl cellsInt;obtain⟨_,_,_,l⟩:=qaU underlying24 h 2 22 2 1 rfl cellsInts;obtain⟨p,d⟩:=qbT i;obtain⟨m,f⟩:=qbT j;obtain⟨zs,A,k,g,o,n⟩:=ints_cell l;exact⟨p,m,zs,A,k,d,f,g,o,n⟩
end
end Go.Proofs.YtflejelbdlelpaaGreat
