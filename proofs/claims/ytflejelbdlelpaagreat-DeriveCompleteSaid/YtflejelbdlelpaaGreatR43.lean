/- Parts of the proof. -/
import Derived.Test.YtflejelbdlelpaaGreatR42
set_option maxRecDepth 100000
set_option maxHeartbeats 8000000
namespace Go.Proofs.YtflejelbdlelpaaGreat
open Go.RowKit Pln Go.Proofs.Tryz
section
variable {P:Program} {ops:Array Oper} {rest:List Oper} {op:Oper} {a:Act} {w:Wo} {Q:Exit->Act->Wo->Prop}
theorem qdL(k:Region.wanted op (yielded ops a.tmps)=true)(c:TypeId)(x:Operand)(i:op.op=.load c x)(b o:Nat)(l:a.eval x=.pointer (some (zA b o)))(cs:List Value)(d:TypeDesc)(f:w.rangeAt b o cs)(j:P.underlying c=some d)(hd:d.isRow=true)(g:(P.info? c).map (·.size)=some cs.length)(h:wpList P ops Q rest (a.put op.dst (.agg cs.toArray)) w):wpList P ops Q (op :: rest) a w:=
 wpList_step fun K hK=>by
  rw[if_pos k]
  exact wp_load_mid c x i b o l cs d f j hd g (hK _ _ h)
end
def TruePost(w:Wo)(e:Ending)(w':Wo):Prop:=e=.returned (.bool true)/\zB w w'
theorem form_s{r low p m n:Int}{mod:LI}{b:List LI}(c:codeZ p m mod n b=0)(d:1<=low)(f:low<=n+1):formZ (stepS r low p m n mod b)=0:=by unfold formZ stepS;simp only[c];rw[if_neg U2,if_neg U0]
theorem chk_s(r low p m n:Int)(mod:LI)(c:List LI)(d Ag:OA)(f cg b:Nat)(w:Wo)(q:Bool)(P:Prop)(o:q=true ↔ P)(v:r=1\/r=15\/r=16)(u:formZ (stepS r low p m n mod c)=0)(t:zI w d mod)(k:mod.length<=maxLen)(s:zR w Ag c)(i:c.length<=maxLen)(h:c.length<=cg)(l:w.rangeAt b 0 (stepC r low p m n mod c d Ag f cg))(g:b<w.heap.size)(j:∀W:Wo,StC W W.heap.size (stepS r low p m n mod c) (stepC r low p m n mod c d Ag f cg)->zC 28 #[.agg (stepC r low p m n mod c d Ag f cg).toArray] W (ItPostX W P)):
 zC 6 #[zS b 1 1] w fun e w'=>e=.returned (Y (if q=true then 0 else 13))/\zB w w':=
 dcheck_s b _ w (step_s r low p m n mod c d Ag f cg b w q P o v u t k s i h l g j)
theorem prop_bool(P:Prop):∃b:Bool,(b=true ↔ P):=by
 by_cases h:P
 . exact⟨true,fun _=>h,fun _=>rfl⟩
 . exact⟨false,fun e=>(by cases e),fun e=>absurd e h⟩
theorem complete_c(p m:Int)(mod:LI)(Am:OA)(cm:Nat)(N:Int)(zs:List LI)(A:OA)(c:Nat)(low:Int)(w:Wo)(hM:zI w Am mod)(bh:mod.length<=maxLen)(hR:zR w A zs)(bj:zs.length<=maxLen)(bi:zs.length<=c):
 zC 3 #[C7 p m Am mod.length cm N A zs.length c,Y low] w (TruePost w):=by
 have ba:maxLen=9223372036854775807:=rfl;have B:=zH (bx_new w (C3 p m Am mod.length cm N A zs.length c) 27);have HM:=zH hM;have HR:=zH hR;have y:=zH bh;have I:=zH bj;have H:=zH bi
 have al:zK (∀W,zB w W->zC 4 #[C7 p m Am mod.length cm N A zs.length c,Y 256] W fun e w'=>e=.returned (Y (cnV p m mod N zs 256))/\zB W w'):=fun W hW=>
  count_u p m mod Am cm N zs A c 256 W ((HM.o.keep hW).more hW.size) U0 ((HR.o.keep hW).more hW.size) U0 fun hz=>by
   have h:zs.length<=256:=(qfR (d:=(stepS 0 low p m N mod zs)) hz).2.2.2.2.2
   omega
 clear hM hR bh bj bi;go_enter func3,ntmps3;go_upto_region 1 with fail;generalize w.alloc (C8 p m Am mod.length cm N A zs.length c)=W0 at *;have s:=zH B.o.range;have y3:W0.cell? (zA w.heap.size 3)=some (Y N):=B.o.cell rfl;by_cases hN:16<N
 . go_wp2;go_ret;exact⟨rfl,B.o.below⟩
 have l:=zH (al.o W0 B.o.below);obtain⟨v,hv⟩:∃v,cnV p m mod N zs 256=v:=⟨_,rfl⟩;rw[hv] at l;have HV:=zH hv;clear hv al;by_cases ai:v=0
 . subst ai;go_wp2_with (first|(refine qdL rfl 27 (.tmp 2) rfl w.heap.size 0 rfl (C3 p m Am mod.length cm N A zs.length c) _ s.o underlying27 rfl codeSize ?_));go_fit l.o;rintro e S ⟨rfl,hb1⟩;have f:=zH (B.o.grow hb1);have T:S.cell? (zA w.heap.size 3)=some (Y N):=f.o.cell rfl;clear hb1 l B s y3;go_wp2;go_ret;exact⟨rfl,f.o.below⟩
 have be:(v==0)=false:=beq_false_of_ne ai;obtain⟨hz,a2,a0,a9⟩:=cn_back HV.o ai;clear a9;obtain⟨a8,n1,n2,a7,a6,a1⟩:=qfR (d:=(stepS 0 low p m N mod zs)) hz;have bg:1<=N:=n1;have bf:IntKind.i64.wrap (N+1)=N+1:=IntWalk.i64_in _ U0;have HZ:=zH hz;have au:=zH a2;have aq:=zH a0;clear hz a2 a0 a8 a7 a6 a1 n1 n2 HV;by_cases bb:low<1
 . go_wp2_with (first|(refine qdL rfl 27 (.tmp 2) rfl w.heap.size 0 rfl (C3 p m Am mod.length cm N A zs.length c) _ s.o underlying27 rfl codeSize ?_));go_fit l.o;rintro e S ⟨rfl,hb1⟩;have f:=zH (B.o.grow hb1);have T:S.cell? (zA w.heap.size 3)=some (Y N):=f.o.cell rfl;clear hb1 l B s y3;go_wp2;go_ret;exact⟨rfl,f.o.below⟩
 by_cases bc:N+1<low
 . go_wp2_with (first|(refine qdL rfl 27 (.tmp 2) rfl w.heap.size 0 rfl (C3 p m Am mod.length cm N A zs.length c) _ s.o underlying27 rfl codeSize ?_));go_fit l.o;rintro e S ⟨rfl,hb1⟩;have f:=zH (B.o.grow hb1);have T:S.cell? (zA w.heap.size 3)=some (Y N):=f.o.cell rfl;clear hb1 l B s y3;go_wp2;go_ret;exact⟨rfl,f.o.below⟩
 have L:zK (∀r:Int,formZ (stepS r low p m N mod zs)=0):=fun r=>form_s HZ.o U0 U0;obtain⟨Q,a3⟩:=prop_bool (LowOk (stepS 0 low p m N mod zs));have z:=zH a3;clear a3
 have ax:zK (∀ W,zB w W->zC 5 #[.agg #[Y 0,Y p,Y m,zL Am mod.length cm,Y N,zL A zs.length c,Y low,zL none 0 0,zL none 0 0,Y 0,Y 0,zL none 0 0,Y 0,Y 0,Y 0,Y 0,Y 0,zL none 0 0,zL none 0 0,zL none 0 0,zL none 0 0,Y 0,zL none 0 0]] W fun e w'=>e=.returned (.bool Q)/\zB W w'):=fun W hW =>
  (true_x (stepS 0 low p m N mod zs) (stepC 0 low p m N mod zs Am A cm c) W (step_stc H.o ((HM.o.keep hW).more hW.size) ((HR.o.keep hW).more hW.size)) (step_ok y.o I.o) HZ.o (by have:=aq.o;show(p.toNat^m.toNat)^zs.length<=1024;omega)).mono fun e w' ⟨b,he,hb,h1,h2⟩=>⟨by
    rw[he]
    cases b<;>cases Q
    . rfl
    . cases h2 (low_true (L.o 0) (z.o.1 rfl))
    . cases z.o.2 (true_low (L.o 0) (h1 rfl))
    . rfl,hb⟩
 have V:zK (∀(W:Wo)(b:Nat),zB w W->W.rangeAt b 0 (Cc 15 p m Am mod.length cm N A zs.length c low)->b<W.heap.size->zC 6 #[zS b 1 1] W fun e w'=>e=.returned (Y (if Q=true then 0 else 13))/\zB W w'):=fun W b hW hrg hbl=>
  chk_s 15 low p m N mod zs Am A cm c b W Q (LowOk (stepS 0 low p m N mod zs)) z.o (.inr (.inl rfl)) (L.o 15) ((HM.o.keep hW).more hW.size) y.o ((HR.o.keep hW).more hW.size) I.o H.o hrg hbl fun W' hst=>itselfX_15 (stepS 15 low p m N mod zs) _ W' hst (L.o 15) rfl au.o
 have u:zK ((p.toNat^m.toNat)^(kerM (opsS (stepS 0 low p m N mod zs)) (natR zs) N.toNat).length<=65536->∀(W:Wo)(b:Nat),zB w W->W.rangeAt b 0 (Cc 16 p m Am mod.length cm N A zs.length c low)->b<W.heap.size->zC 6 #[zS b 1 1] W fun e w'=>e=.returned (Y (if Q=true then 0 else 13))/\zB W w'):=fun hk W b hW hrg hbl=>
  chk_s 16 low p m N mod zs Am A cm c b W Q (LowOk (stepS 0 low p m N mod zs)) z.o (.inr (.inr rfl)) (L.o 16) ((HM.o.keep hW).more hW.size) y.o ((HR.o.keep hW).more hW.size) I.o H.o hrg hbl fun W' hst=>itselfX_16 (stepS 16 low p m N mod zs) _ W' hst (L.o 16) rfl hk
 have M:zK (∀(W:Wo)(b:Nat),zB w W->W.rangeAt b 0 (Cc 1 p m Am mod.length cm N A zs.length c low)->b<W.heap.size->zC 6 #[zS b 1 1] W fun e w'=>e=.returned (Y (if(Q && decide (low<=3))=true then 0 else 13))/\zB W w'):=fun W b hW hrg hbl=>
  chk_s 1 low p m N mod zs Am A cm c b W (Q && decide (low<=3)) (LowOk (stepS 0 low p m N mod zs)/\low<=3) (by rw[Bool.and_eq_true,decide_eq_true_eq,z.o]) (.inl rfl) (L.o 1) ((HM.o.keep hW).more hW.size) y.o ((HR.o.keep hW).more hW.size) I.o H.o hrg hbl fun W' hst=>itselfX_1 (stepS 1 low p m N mod zs) _ W' hst (L.o 1) rfl
 obtain⟨KL,ah⟩:∃KL,(kerM (opsS (stepS 0 low p m N mod zs)) (natR zs) N.toNat).length=KL:=⟨_,rfl⟩;rw[ah] at u;have ao:zK (∀W,zB w W->zC 7 #[C7 p m Am mod.length cm N A zs.length c] W fun e w'=>(∃(A':OA)(c':Nat)(G:OA)(R:LL)(k:Nat),e=.returned (.tuple #[C7 p m A' mod.length c' N G R.length k,Y 0])/\zI w' A' mod/\zR w' G (nzs R)/\R.length<=256/\R.length=KL)/\zB W w'):=fun W hW=>by rw[<- ah];exact rdual_x (stepS 0 low p m N mod zs) Am cm A c W HZ.o ((HM.o.keep hW).more hW.size) ((HR.o.keep hW).more hW.size)
 have ak:zK (∀(W:Wo)(A':OA)(c':Nat)(G:OA)(R:LL)(k:Nat),zI W A' mod->zR W G (nzs R)->R.length<=256->zC 4 #[C7 p m A' mod.length c' N G R.length k,Y 256] W fun e w'=>e=.returned (Y (cnV p m mod N (nzs R) 256))/\zB W w'):=fun W A' c' G R k h1 h2 h3=>by have:=count_c p m mod A' c' N (nzs R) G k 256 W h1 (by have:=y.o;omega) h2 (by rw[nzs_len];omega);rw[nzs_len] at this;exact this
 clear ah z L au aq HZ HM HR y I H;go_wp2_with (first|(refine qdL rfl 27 (.tmp 2) rfl w.heap.size 0 rfl (C3 p m Am mod.length cm N A zs.length c) _ s.o underlying27 rfl codeSize ?_));go_fit l.o;rintro e S ⟨rfl,hb1⟩;have f:=zH (B.o.grow hb1);have T:S.cell? (zA w.heap.size 3)=some (Y N):=f.o.cell rfl;have aa:=zH f.o.range;have aw:=zH (ax.o S f.o.below);clear hb1 l B s y3 ax;go_wp2_with (first|(refine wpList_load_mid rfl 27 (.tmp 2) rfl w.heap.size 0 rfl (C3 p m Am mod.length cm N A zs.length c) _ aa.o underlying27 rfl codeSize ?_));go_fit aw.o;rintro e w2 ⟨rfl,hb2⟩;have E:=zH (f.o.grow hb2);have ab:=zH E.o.range;clear hb2 aw f aa T;clear W0 S;cases Q
 all_goals
  have n:zB w2 (w2.alloc (C6 15 p m Am mod.length cm N A zs.length c low)):=zV.alloc zn _
  have X:=zH (V.o (w2.alloc (C6 15 p m Am mod.length cm N A zs.length c low)) w2.heap.size (E.o.below.trans (n.mono E.o.below.size)) (qeL (heap_alloc_new _ _)) U2)
  go_wp2_with (first|(refine wpList_load_mid rfl 27 (.tmp 2) rfl w.heap.size 0 rfl (C3 p m Am mod.length cm N A zs.length c) _ ab.o underlying27 rfl codeSize ?_))
  go_fit X.o
  rintro e w3 ⟨rfl,hb3⟩
  have O:=zH (E.o.grow (n.trans (hb3.mono n.size)))
  clear n hb3 X V E ab
  have ac:=zH O.o.range
  have an:=zH (ao.o w3 O.o.below)
  clear ao
  go_wp2_with (first|(refine wpList_load_mid rfl 27 (.tmp 2) rfl w.heap.size 0 rfl (C3 p m Am mod.length cm N A zs.length c) _ ac.o underlying27 rfl codeSize ?_))
  go_fit an.o
  rintro e J ⟨⟨A',c',G,R,k,rfl,hM4,hR4,hRl,hRK⟩,hb4⟩
  have ay:=zH (O.o.grow hb4)
  have ar:=zH hM4
  have av:=zH hR4
  have a4:=zH hRK
  have a5:=zH hRl
  clear hM4 hR4 hRK hRl hb4 an O ac
  go_upto_region 8 with(refine qaH rfl 27 (.tmp 7) (.tmp 54) rfl J _ (Cb p m A' mod.length c' N G R.length k) rfl rfl codeSize rfl sc ?_)
  have j:zB J (J.alloc (C8 p m A' mod.length c' N G R.length k)):=zV.alloc zn _
  have ap:zK ((J.alloc (C8 p m A' mod.length c' N G R.length k)).heap[J.heap.size]?=some (C8 p m A' mod.length c' N G R.length k)):=heap_alloc_new _ _
  have az:=zH (ay.o.grow j)
  have U:=zH (ak.o (J.alloc (C8 p m A' mod.length c' N G R.length k)) A' c' G R k ((ar.o.keep j).more j.size) ((av.o.keep j).more j.size) a5.o)
  clear j ay ar av ak
  generalize J.alloc (C8 p m A' mod.length c' N G R.length k)=w5 at *
  generalize J.heap.size=bd at *
  clear w3 J
  have ae:=zH (qeL ap.o)
  go_wp2_with (first|(refine wpList_load_mid rfl 27 (.tmp 7) rfl bd 0 rfl (C3 p m A' mod.length c' N G R.length k) _ ae.o underlying27 rfl codeSize ?_))
  go_fit U.o
  rintro e K ⟨rfl,hb6⟩
  have t:=zH (az.o.grow hb6)
  have x:=zH t.o.range
  clear hb6 U az ae ap
  have af:zK (0<cnV p m mod N (nzs R) 256->(p.toNat^m.toNat)^KL<=65536):=fun h0=>by
   have h:=(cn_back (v:=cnV p m mod N (nzs R) 256) rfl U0).2.1
   rw[nzs_len,a4.o] at h
   exact h
  generalize cnV p m mod N (nzs R) 256=v2 at *
  by_cases aj:0<v2
  . have d0 : decide (0 < v2) = true := decide_eq_true aj
    have C:=zH (u.o (af.o aj))
    clear af u
    have q:zB K (K.alloc (C6 16 p m Am mod.length cm N A zs.length c low)):=zV.alloc zn _
    have Z:=zH (C.o (K.alloc (C6 16 p m Am mod.length cm N A zs.length c low)) K.heap.size (t.o.below.trans (q.mono t.o.below.size)) (qeL (heap_alloc_new _ _)) U2)
    go_wp2_with (first|(refine wpList_load_mid rfl 27 (.tmp 2) rfl w.heap.size 0 rfl (C3 p m Am mod.length cm N A zs.length c) _ x.o underlying27 rfl codeSize ?_))
    go_fit Z.o
    rintro e w7 ⟨rfl,hb7⟩
    have P:=zH (t.o.grow (q.trans (hb7.mono q.size)))
    have ad:=zH P.o.range
    clear q hb7 Z C t x
    have i:=M
    by_cases h3:low<=3
    all_goals
     first|have d3:decide (low<=3)=true:=decide_eq_true h3|have d3:decide (low<=3)=false:=decide_eq_false h3
     rw[d3] at i
     have g:zB w7 (w7.alloc (C6 1 p m Am mod.length cm N A zs.length c low)):=zV.alloc zn _
     have D:=zH (i.o (w7.alloc (C6 1 p m Am mod.length cm N A zs.length c low)) w7.heap.size (P.o.below.trans (g.mono P.o.below.size)) (qeL (heap_alloc_new _ _)) U2)
     go_wp2_with (first|(refine wpList_load_mid rfl 27 (.tmp 2) rfl w.heap.size 0 rfl (C3 p m Am mod.length cm N A zs.length c) _ ad.o underlying27 rfl codeSize ?_))
     go_fit D.o
     rintro e w8 ⟨rfl,hb8⟩
     have ag:=zH (P.o.grow (g.trans (hb8.mono g.size)))
     clear g hb8 D M i ad
     go_wp2
     go_ret
     exact⟨rfl,ag.o.below⟩
  . have d0 : decide (0 < v2) = false := decide_eq_false aj
    clear af u
    have i:=M
    by_cases h3:low<=3
    all_goals
     first|have d3:decide (low<=3)=true:=decide_eq_true h3|have d3:decide (low<=3)=false:=decide_eq_false h3
     rw[d3] at i
     have g:zB K (K.alloc (C6 1 p m Am mod.length cm N A zs.length c low)):=zV.alloc zn _
     have D:=zH (i.o (K.alloc (C6 1 p m Am mod.length cm N A zs.length c low)) K.heap.size (t.o.below.trans (g.mono t.o.below.size)) (qeL (heap_alloc_new _ _)) U2)
     go_wp2_with (first|(refine wpList_load_mid rfl 27 (.tmp 2) rfl w.heap.size 0 rfl (C3 p m Am mod.length cm N A zs.length c) _ x.o underlying27 rfl codeSize ?_))
     go_fit D.o
     rintro e w8 ⟨rfl,hb8⟩
     have ag:=zH (t.o.grow (g.trans (hb8.mono g.size)))
     clear g hb8 D M i x
     go_wp2
     go_ret
     exact⟨rfl,ag.o.below⟩
end Go.Proofs.YtflejelbdlelpaaGreat
