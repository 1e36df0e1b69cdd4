/- Parts of the proof. -/
import Derived.Test.YtflejelbdlelpaaGreatR31
set_option maxRecDepth 100000
set_option maxHeartbeats 8000000
namespace Go.Proofs.YtflejelbdlelpaaGreat
open Go.RowKit Pln Go.Proofs.Tryz
def sg(n:Bool)(N:Nat):Int:=if n=true then -(N:Int) else(N:Int)
theorem sg_not(n:Bool)(N:Nat):sg (!n) N=-sg n N:=by unfold sg;cases n<;>simp
theorem sg_mul(m n:Bool)(M N:Nat):sg (m != n) (M*N)=sg m M*sg n N:=by unfold sg;cases m<;>cases n<;>simp[Int.neg_mul,Int.mul_neg]
theorem qfE(n:Bool)(N:Nat):(sg n N).natAbs=N:=by unfold sg;split<;>omega
def IntV(w:Wo)(lo:Nat)(n:Bool)(v:Value)(Z:Int):Prop:=∃N,NatV w lo v N/\Z=sg n N
def IntR(Z:Int)(w:Wo)(e:Ending)(w':Wo):Prop:=∃n v,e=.returned (.agg #[.bool n,v])/\IntV w' w.heap.size n v Z/\zB w w'
theorem intSize:(prog.info? 189).map (·.size)=some 2:=U1
theorem qeS{w:Wo}{lo:Nat}{v:Value}{N:Nat}(h:NatV w lo v N):∃A k c,v=zL A k c:=by obtain⟨A,l,c,e,_⟩:=h;exact⟨A,l.length,c,e⟩
theorem natV_one{w:Wo}{lo:Nat}{v:Value}{N:Nat}(h:NatV w lo v N):v.oneCell'=true:=by obtain⟨A,l,c,rfl,_⟩:=h;rfl
theorem small_n(n:Nat)(w:Wo)(r:n<1000000):zC 232 #[Y (n:Int)] w (IntR n w):=by have b:zK (zB w (w.alloc (.cells #[.bool false,zL none 0 0] 189))):=zV.alloc zn _;have d:zK ((w.alloc (.cells #[.bool false,zL none 0 0] 189)).heap[w.heap.size]?=some (.cells #[.bool false,zL none 0 0] 189 (0,0))):=heap_alloc_new _ _;have q:IntKind.u64.wrap (n:Int)=(n:Int):=IntWalk.u64_in _ U0;go_enter func232,ntmps232;go_wp2_with fail;generalize w.alloc (.cells #[.bool false,zL none 0 0] 189)=W at *;have h:=zH (natOf_c n W (by unfold BB;omega));refine h.o.mono ?_;rintro e m ⟨v,rfl,hv,hb⟩;obtain⟨A,k,c,rfl⟩:=qeS hv;have i:=zH b.o.size;have f:zK (w.heap.size<W.heap.size):=(Array.getElem?_eq_some_iff.1 d.o).1;have l:=zH ((hb.block _ f.o).trans d.o);have p:=zH hv;have g:=zH (b.o.trans (hb.mono i.o));clear hv hb h b d;go_wp2_with (refine wpList_store_row rfl 189 (.tmp 2) (.tmp 6) rfl m w.heap.size 189 #[.bool false,zL none 0 0] #[.bool false,zL A k c] rfl rfl l.out intSize rfl sc ?_);refine bodyPost_ret (results_cell_row (P:=prog) rfl _ _ w.heap.size 189 #[.bool false,zL A k c] (0,0) _ rfl (setRow_same _ _ _ _ _ l.out) underlying189 rfl intSize) rfl ?_;refine⟨false,_,rfl,⟨n,(p.o.of_blocks U2 fun j hj _=>setRow_other m w.heap.size j _ (by have:=f.o;omega)).low i.o,rfl⟩,qaR g.o zn _⟩
structure Bx3 (w:Wo) (x y:List Value) (W:Wo):Prop where
 below:zB w W
 k0:W.heap[w.heap.size]?=some (.cells x.toArray 189 (0,0))
 k1:W.heap[w.heap.size+1]?=some (.cells y.toArray 189 (0,0))
 k2:W.heap[w.heap.size+1+1]?=some (.cells #[.bool false,zL none 0 0] 189 (0,0))
theorem Bx3.lt{w W:Wo}{x y:List Value}(h:Bx3 w x y W):w.heap.size+2<W.heap.size:=(Array.getElem?_eq_some_iff.1 h.k2).1
theorem Bx3.grow{w W c:Wo}{x y:List Value}(h:Bx3 w x y W)(b:zB W c):Bx3 w x y c:=
 have:=h.lt
 ⟨h.below.trans (b.mono h.below.size),(b.block _ U0).trans h.k0,(b.block _ U0).trans h.k1,(b.block _ U0).trans h.k2⟩
theorem bx3_of(w:Wo)(x y:List Value):Bx3 w x y (((w.alloc (.cells x.toArray 189)).alloc (.cells y.toArray 189)).alloc (.cells #[.bool false,zL none 0 0] 189)):=
 ⟨((zV.alloc zn _).alloc U2 _).alloc so _,(heap_alloc_old _ _ so).trans ((heap_alloc_old _ _ U2).trans (heap_alloc_new _ _)),(heap_alloc_old _ _ U2).trans (alloc_at U2 _),alloc_at U2 _⟩
theorem Bx3.c0{w W:Wo}{n m:Bool}{u v:Value}(h:Bx3 w [.bool n,u] [.bool m,v] W):W.cell? (zA w.heap.size 0)=some (.bool n)/\W.cell? (zA w.heap.size 1)=some u/\W.cell? (zA (w.heap.size+1) 0)=some (.bool m)/\W.cell? (zA (w.heap.size+1) 1)=some v:=
 ⟨cell_of_row _ _ 0 _ _ _ h.k0,cell_of_row _ _ 1 _ _ _ h.k0,cell_of_row _ _ 0 _ _ _ h.k1,cell_of_row _ _ 1 _ _ _ h.k1⟩
theorem natAdd_two{A:OA}{M N c:Nat}{w:Wo}(h:NatsAt w A [M,N])(b:M+N<LIM):zC 162 #[zL A 2 c] w (NatR (M+N) w):=
 natAdd_c A [M,N] c w h b U2
theorem natMul_two{A:OA}{M N c:Nat}{w:Wo}(h:NatsAt w A [M,N])(b:M<LIM)(d:N<LIM)(f:M*N<LIM):zC 231 #[zL A 2 c] w (NatR (M*N) w):=by
 have e:prd [M,N]=M*N:=by show M*(N*1)=_;rw[Nat.mul_one]
 rw[<- e];refine natMul_c A [M,N] c w h (fun x hx=>?_) (fun k=>?_) U2
 . simp only[List.mem_cons,List.not_mem_nil,or_false] at hx;rcases hx with rfl|rfl
   . exact b
   . exact d
 . match k with
   |0=>show 1<LIM;unfold LIM;exact Nat.one_lt_pow dc dc
   |1=>show M*1<LIM;omega
   |k+2=>rw[List.take_of_length_le U2,e];exact f
theorem bool_ne{n m:Bool}(h:n≠m):m=!n:=by cases n<;>cases m<;>first|rfl|exact absurd rfl h
def RelQp(w:Wo)(Z:Int)(W:Wo):Prop:=
 ∃(n m:Bool)(M N:Nat)(u v:Value),Bx3 w [.bool n,u] [.bool m,v] W/\NatV W 0 u M/\NatV W 0 v N/\N<=M/\M<LIM/\sg n (M-N)=Z
theorem plusI_c(n m:Bool)(u v:Value)(M N:Nat)(w:Wo)(hu:NatV w 0 u M)(hv:NatV w 0 v N)(hl:M+N<LIM):
 zC 206 #[.agg #[.bool n,u],.agg #[.bool m,v]] w (IntR (sg n M+sg m N) w):=by
 obtain⟨p,q,cu,rfl⟩:=qeS hu;obtain⟨f,g,cv,rfl⟩:=qeS hv;have r:=zH (bx3_of w [.bool n,zL p q cu] [.bool m,zL f g cv]);have aa:=zH hu;have ac:=zH hv;have Z:=zH (hu.grow r.o.below);have HV:=zH (hv.grow r.o.below);clear hu hv;go_enter func206,ntmps206;go_upto_region 1 with fail;generalize ((w.alloc (.cells [.bool n,zL p q cu].toArray 189)).alloc (.cells [.bool m,zL f g cv].toArray 189)).alloc (.cells #[.bool false,zL none 0 0] 189)=W at *;by_cases Q:n=m
 . subst Q;obtain⟨s,t,x,y⟩:=r.o.c0;have ax:=zH (nats_two (w:=W) Z.o HV.o);go_upto_region 2 with fail;clear s t x y;have I:zK (Bx3 w [.bool n,zL p q cu] [.bool n,zL f g cv] W.drew):=r.o.grow zV.drew;have ag:=zH (nats_two (w:=W.drew) (Z.o.grow zV.drew) (HV.o.grow zV.drew));refine qaS 9 9 (Bx3 w [.bool n,zL p q cu] [.bool n,zL f g cv]) [(1,0),(0,1),(1,2),(0,3),(1,4),(0,5),(2,6),(2,7),(1,8)] default U1 U1 (fun _ _ d _ _ h=>by cases d<;>exact h) I.o ?_;generalize W.drew=S at *;simp only[List.map_cons,List.map_nil,List.getD_cons_zero,List.getD_cons_succ];apply qaM rfl
   . intro V;go_simp;rfl
   go_simp;apply qbF rfl
   . intro V hV;obtain⟨s,t,x,y⟩:=Bx3.c0 hV;go_simp;rfl
   go_simp;apply qaM rfl
   . intro V;go_simp;rfl
   go_simp;apply qbF rfl
   . intro V hV;obtain⟨s,t,x,y⟩:=Bx3.c0 hV;go_simp;rfl
   go_simp;apply qaM rfl
   . intro V;go_simp;rfl
   go_simp;apply qbF rfl
   . intro V hV;obtain⟨s,t,x,y⟩:=Bx3.c0 hV;go_simp;rfl
   go_simp;have X:zK (zB S (S.alloc (.cells #[zL p q cu,zL f g cv] 138))):=zV.alloc zn _;have J:=zH (I.o.grow X.o);refine qdM (v:=zS S.heap.size 2 2) (w':=S.alloc (.cells #[zL p q cu,zL f g cv] 138)) rfl ?_ J.o ?_
   . go_simp
   have U:=zH (natAdd_two (c:=2) ag.o hl);generalize S.alloc (.cells #[zL p q cu,zL f g cv] 138)=W2 at *;go_simp;apply qbE rfl
   . go_simp;exact⟨rfl,rfl⟩
   go_fit U.o;rintro e w3 ⟨v,rfl,hv,hb⟩;obtain⟨T,k3,c3,rfl⟩:=qeS hv;have K:=zH (J.o.grow hb);have ak:=zH hv;have aw:=zH hb;refine⟨_,rfl,K.o,?_⟩;clear hv hb U J;go_simp;apply qaM rfl
   . intro V;go_simp;rfl
   go_simp;refine qbH ?_;have K2:=zH K.o.k2;go_wp2_with (refine wpList_store_row rfl 189 (.tmp 4) (.tmp 20) rfl w3 (w.heap.size+1+1) 189 #[.bool false,zL none 0 0] #[.bool n,zL T k3 c3] rfl rfl K2.out intSize rfl sc ?_);refine bodyPost_ret (results_cell_row (P:=prog) rfl _ _ (w.heap.size+1+1) 189 #[.bool n,zL T k3 c3] (0,0) _ rfl (setRow_same _ _ _ _ _ K2.out) underlying189 rfl intSize) rfl ?_;have a0:=I.o.lt;have a1:=X.o.size;have ap:=K.o.below;refine⟨n,_,rfl,⟨M+N,(ak.o.of_blocks U2 fun j hj _=>setRow_other w3 _ j _ U0).low U0,?_⟩,qaR ap U0 _⟩;unfold sg;cases n<;>simp<;>omega
 . obtain ⟨s,t,x,y⟩ := r.o.c0;(have az:(n==m)=false:=by rw [beq_eq_false_iff_ne];exact Q);have H:=zH (bool_ne Q);obtain ⟨A1,l1,c1,e1,A,i,D,C⟩:=Z.o;obtain ⟨A2,l2,c2,e2,B,l,R,w2⟩:=HV.o;have L1:l1.length<=200:=qfQ i (by rw [D];omega);have L2:l2.length<=200:=qfQ l (by rw [R];omega);have E:=zH (cmp_c A1 A2 l1 l2 c1 c2 W C.words w2.words i l U0 U0 A B);rw [<- e1,<- e2,D,R] at E;clear i D C e1 l R w2 e2 L1 L2 A B;go_wp2_with fail;refine E.o.mono ?_;rintro e C ⟨rfl,hb⟩;have b:=zH (r.o.grow hb);have ab:=zH (Z.o.grow hb);have ad:=zH (HV.o.grow hb);clear s t x y hb E r Z HV;go_upto_if 26 with fail;go_cut [] (fun wx=>RelQp w (sg n M+sg m N) wx);case first =>
    obtain⟨s,t,x,y⟩:=b.o.c0;by_cases af:M<N
    . (have HC:cmpN M N=-1:=by unfold cmpN;rw[if_pos af]);rw[HC];have ah:zK (C.rangeAt (w.heap.size+1) 0 [.bool m,zL f g cv]):=qeL b.o.k1;have ai:zK (C.rangeAt w.heap.size 0 [.bool n,zL p q cu]):=qeL b.o.k0;(have f0:C.frozen? (zA w.heap.size 0)=false:=by simp[World.frozen?,b.o.k0]);have au:=b.o.lt;have al:=zH (setRow_same _ _ _ _ #[.bool m,zL f g cv] b.o.k0);have ae:=zH ((setRow_other C w.heap.size (w.heap.size+1) #[.bool m,zL f g cv] U0).trans b.o.k1);have an:=zH ((setRow_other C w.heap.size (w.heap.size+1+1) #[.bool m,zL f g cv] U0).trans b.o.k2);have ao:=zH (qaR b.o.below zn #[.bool m,zL f g cv]);go_wp2_with (first|(refine wpList_load_mid rfl 189 (.tmp 3) rfl (w.heap.size+1) 0 rfl [.bool m,zL f g cv] _ ah.o underlying189 rfl intSize ?_)|(refine wpList_load_mid rfl 189 (.tmp 2) rfl w.heap.size 0 rfl [.bool n,zL p q cu] _ ai.o underlying189 rfl intSize ?_)|(refine wpList_store_row rfl 189 (.tmp 2) (.tmp 27) rfl _ w.heap.size 189 #[.bool n,zL p q cu] #[.bool m,zL f g cv] rfl rfl b.o.k0 intSize rfl sc ?_;generalize C.setRow w.heap.size #[.bool m,zL f g cv]=w2 at *;refine wpList_store_row rfl 189 (.tmp 3) (.tmp 28) rfl _ (w.heap.size+1) 189 #[.bool m,zL f g cv] #[.bool n,zL p q cu] rfl rfl ae.o intSize rfl sc ?_));go_meet;have O:=qaR ao.o (Nat.le_succ w.heap.size) #[.bool n,zL p q cu];refine⟨m,n,N,M,_,_,⟨O,(setRow_other _ _ _ _ U0).trans al.o,setRow_same _ _ _ _ _ ae.o,(setRow_other _ _ _ _ U0).trans an.o⟩,ac.o.grow O,aa.o.grow O,U0,U0,?_⟩;rw[H.o,sg_not];unfold sg;cases n<;>simp<;>omega
    . (have HC:0<=cmpN M N:=by unfold cmpN;rw[if_neg af];split<;>omega);generalize cmpN M N=cm at *;have ay:¬cm<0:=U0;go_wp2;go_meet;refine⟨n,m,M,N,_,_,b.o,ab.o,ad.o,U0,U0,?_⟩;rw[H.o,sg_not];unfold sg;split<;>omega
   case rest=>
    obtain⟨n',m',M',N',u,v,hx,hu,hv,aq,ar,hz⟩:=hcut;obtain⟨A1,l1,c1,rfl,A,i,D,x1⟩:=hu;obtain⟨A2,l2,c2,rfl,B,l,R,x2⟩:=hv;have L1:l1.length<=200:=qfQ i (by rw[D];omega);have L:=zH (natSub_c A1 A2 l1 l2 c1 c2 wc x1.words x2.words i l U0 A B (by rw[D,R];exact aq));rw[D,R] at L;have r:=zH hx;have HZ:=zH hz;obtain⟨s,t,x,y⟩:=hx.c0;have av:=hx.lt;clear i D x1 l R x2 hx hz b ab ad H aa ac;go_wp2_with fail;refine L.o.mono ?_;rintro e w2 ⟨d,rfl,hd,hb⟩;obtain⟨T,k3,c3,rfl⟩:=qeS hd;have HD:=zH hd;have z:=zH (r.o.grow hb);have aj:=zH r.o.below.size;clear s t x y hd hb L r;obtain⟨s,t,x,y⟩:=z.o.c0;go_wp2_with (refine wpList_store_row rfl 189 (.tmp 4) (.tmp 40) rfl _ (w.heap.size+1+1) 189 #[.bool false,zL none 0 0] #[.bool n',zL T k3 c3] rfl rfl z.o.k2 intSize rfl sc ?_);refine bodyPost_ret (results_cell_row (P:=prog) rfl _ _ (w.heap.size+1+1) 189 #[.bool n',zL T k3 c3] (0,0) _ rfl (setRow_same _ _ _ _ _ z.o.k2) underlying189 rfl intSize) rfl ?_;refine⟨n',_,rfl,⟨M'-N',?_,?_⟩,qaR z.o.below U0 _⟩
    . exact(HD.o.of_blocks U2 fun k hk _=>setRow_other w2 _ k _ U0).low aj.o
    . rw[<- HZ.o]
theorem minusI_c(n m:Bool)(u v:Value)(M N:Nat)(w:Wo)(I:NatV w 0 u M)(J:NatV w 0 v N)(K:M+N<LIM):
 zC 233 #[.agg #[.bool n,u],.agg #[.bool m,v]] w (IntR (sg n M-sg m N) w):=by obtain⟨g,h,cu,rfl⟩:=qeS I;obtain⟨l,t,cv,rfl⟩:=qeS J;have b:=zH (bx3_of w [.bool n,zL g h cu] [.bool m,zL l t cv]);have p:=zH (plusI_c n (!m) _ _ M N _ (I.grow b.o.below) (J.grow b.o.below) K);clear I J;go_enter func233,ntmps233;go_upto_region 1 with fail;generalize ((w.alloc (.cells [.bool n,zL g h cu].toArray 189)).alloc (.cells [.bool m,zL l t cv].toArray 189)).alloc (.cells #[.bool false,zL none 0 0] 189)=W at *;obtain⟨B,C,E,H⟩:=b.o.c0;have f:zK (W.rangeAt w.heap.size 0 [.bool n,zL g h cu]):=qeL b.o.k0;go_wp2_with (refine wpList_load_mid rfl 189 (.tmp 2) rfl w.heap.size 0 rfl [.bool n,zL g h cu] _ f.o underlying189 rfl intSize ?_);refine p.o.mono ?_;rintro e A ⟨r,d,rfl,⟨D,hd,hz⟩,hb⟩;obtain⟨j,s,q,rfl⟩:=qeS hd;have x:=zH hd;have y:=zH hz;have c:=zH (b.o.grow hb);have i:=zH b.o.below.size;have z:=b.o.lt;clear B C E H hd hb p b f hz;go_wp2_with (refine wpList_store_row rfl 189 (.tmp 4) (.tmp 12) rfl _ (w.heap.size+1+1) 189 #[.bool false,zL none 0 0] #[.bool r,zL j s q] rfl rfl c.o.k2 intSize rfl sc ?_);refine bodyPost_ret (results_cell_row (P:=prog) rfl _ _ (w.heap.size+1+1) 189 #[.bool r,zL j s q] (0,0) _ rfl (setRow_same _ _ _ _ _ c.o.k2) underlying189 rfl intSize) rfl ?_;refine⟨r,_,rfl,⟨D,(x.o.of_blocks U2 fun k hk _=>setRow_other A _ k _ U0).low i.o,?_⟩,qaR c.o.below U0 _⟩;rw[<- y.o,sg_not];omega
theorem timesI_c(n m:Bool)(u v:Value)(M N:Nat)(w:Wo)(X:NatV w 0 u M)(U:NatV w 0 v N)(Z:M<LIM)(h2:N<LIM)(hl:M*N<LIM):
 zC 207 #[.agg #[.bool n,u],.agg #[.bool m,v]] w (IntR (sg n M*sg m N) w):=by
 obtain⟨b,l,cu,rfl⟩:=qeS X;obtain⟨f,p,cv,rfl⟩:=qeS U;have y:=zH (bx3_of w [.bool n,zL b l cu] [.bool m,zL f p cv]);have E:=zH (X.grow y.o.below);have H:=zH (U.grow y.o.below);clear X U;go_enter func207,ntmps207;go_upto_region 1 with fail;generalize ((w.alloc (.cells [.bool n,zL b l cu].toArray 189)).alloc (.cells [.bool m,zL f p cv].toArray 189)).alloc (.cells #[.bool false,zL none 0 0] 189)=W at *;have g:zK (Bx3 w [.bool n,zL b l cu] [.bool m,zL f p cv] W.drew):=y.o.grow zV.drew;have t:=zH (nats_two (w:=W.drew) (E.o.grow zV.drew) (H.o.grow zV.drew));refine qaS 12 12 (Bx3 w [.bool n,zL b l cu] [.bool m,zL f p cv]) [(1,0),(0,1),(1,2),(0,3),(1,4),(1,5),(0,6),(1,7),(0,8),(2,9),(2,10),(1,11)] default U1 U1 (fun _ _ d _ _ h=>by cases d<;>exact h) g.o ?_;generalize W.drew=q at *;simp only[List.map_cons,List.map_nil,List.getD_cons_zero,List.getD_cons_succ]
 iterate 9 (first
  | (apply qaM rfl
     . intro V
       go_simp
       rfl
     go_simp)
  | (apply qbF rfl
     . intro V I
       obtain⟨Q,R,S,T⟩:=Bx3.c0 I
       go_simp
       rfl
     go_simp))
 have s:zK (zB q (q.alloc (.cells #[zL b l cu,zL f p cv] 138))):=zV.alloc zn _;have i:=zH (g.o.grow s.o);refine qdM (v:=zS q.heap.size 2 2) (w':=q.alloc (.cells #[zL b l cu,zL f p cv] 138)) rfl ?_ i.o ?_
 . go_simp
 have r:=zH (natMul_two (c:=2) t.o Z h2 hl);generalize q.alloc (.cells #[zL b l cu,zL f p cv] 138)=O at *;go_simp;apply qbE rfl
 . go_simp;exact⟨rfl,rfl⟩
 with_reducible refine r.o.mono ?_
 rintro e L ⟨v,rfl,U,hb⟩;obtain⟨A,D,C,rfl⟩:=qeS U;have k:=zH (i.o.grow hb);have x:=zH U;refine⟨_,rfl,k.o,?_⟩;clear U hb r i;go_simp;apply qaM rfl
 . intro V;go_simp;rfl
 go_simp;refine qbH ?_;have B:=zH k.o.k2;go_wp2_with (refine wpList_store_row rfl 189 (.tmp 4) (.tmp 16) rfl _ (w.heap.size+1+1) 189 #[.bool false,zL none 0 0] #[.bool (n != m),zL A D C] rfl rfl B.out intSize rfl sc ?_);refine bodyPost_ret (results_cell_row (P:=prog) rfl _ _ (w.heap.size+1+1) 189 #[.bool (n != m),zL A D C] (0,0) _ rfl (setRow_same _ _ _ _ _ B.out) underlying189 rfl intSize) rfl ?_;have J:=g.o.lt;have K:=s.o.size;have z:=k.o.below;exact⟨n != m,_,rfl,⟨M*N,(x.o.of_blocks U2 fun j hj _=>setRow_other L _ j _ U0).low U0,(sg_mul n m M N).symm⟩,qaR z U0 _⟩
end Go.Proofs.YtflejelbdlelpaaGreat
namespace Go.Proofs.YtflejelbdlelpaaGreat
open Go.RowKit Pln
def NatP(w:Wo)(p:Nat->Prop)(v:Value)(N:Nat):Prop:=
 ∃A l c,v=zL A l.length c/\l.length<=c/\Cn l/\val BB l=N/\(0<l.length->∃b o,A=some (zA b o)/\p b/\b<w.heap.size/\∀j,j<l.length->w.cell? (zA b (o+j))=some (.int .u32 ((l.getD j 0:Nat):Int)))
def IntP(w:Wo)(p:Nat->Prop)(n:Bool)(v:Value)(Z:Int):Prop:=∃N,NatP w p v N/\Z=sg n N
def IntsL(w:Wo)(p:Nat->Prop)(A:OA)(Zs:LI):Prop:=
 0<Zs.length->∃b o,A=some (zA b o)/\p b/\b<w.heap.size/\∀j,j<Zs.length->∃n v,w.rangeAt b (o+j*2) [.bool n,v]/\IntP w p n v (Zs.getD j 0)
def IOwn(w:Wo)(B:Nat)(p:Nat->Prop)(v:Value)(Zs:LI):Prop:=
 ∃xs,w.ownsRow B 189 2 v Zs.length xs/\∀j,j<Zs.length->∃n u,xs[j*2]?=some (.bool n)/\xs[j*2+1]?=some u/\IntP w (fun b=>p b/\v.ownBlock≠some b) n u (Zs.getD j 0)
section
variable {w w':Wo} {p q:Nat->Prop} {lo B N:Nat} {n:Bool} {v:Value} {Z:Int} {Zs:LI} {A:OA}
theorem NatV.toP(h:NatV w lo v N)(r:∀b,lo<=b->b<w.heap.size->p b):NatP w p v N:=by obtain⟨A,l,c,e,f,g,i,j⟩:=h;refine⟨A,l,c,e,f,g,i,fun hz=>?_⟩;obtain⟨b,o,e,m,d,k⟩:=j hz;exact⟨b,o,e,r b m d,d,k⟩
theorem NatP.toV(h:NatP w p v N):NatV w 0 v N:=by obtain⟨A,l,c,e,d,f,g,i⟩:=h;refine⟨A,l,c,e,d,f,g,fun hz=>?_⟩;obtain⟨b,o,e,_,k,j⟩:=i hz;exact⟨b,o,e,Nat.zero_le _,k,j⟩
theorem NatP.imp(h:NatP w p v N)(r:∀b,b<w.heap.size->p b->q b):NatP w q v N:=by obtain⟨A,l,c,e,f,g,i,j⟩:=h;refine⟨A,l,c,e,f,g,i,fun hz=>?_⟩;obtain⟨b,o,e,m,d,k⟩:=j hz;exact⟨b,o,e,r b d m,d,k⟩
theorem NatP.of_blocks(h:NatP w p v N)(s:w.heap.size<=w'.heap.size)(r:∀k,p k->k<w.heap.size->w'.heap[k]?=w.heap[k]?):NatP w' p v N:=by
 obtain⟨A,l,c,e,g,i,m,n⟩:=h;refine⟨A,l,c,e,g,i,m,fun hz=>?_⟩;obtain⟨b,o,e,f,d,q⟩:=n hz;refine⟨b,o,e,f,U0,fun j hj=>?_⟩;have:w'.cell? (zA b (o+j))=w.cell? (zA b (o+j)):=by unfold World.cell?;rw[r b f d]
 exact this.trans (q j hj)
theorem IntV.toP(h:IntV w lo n v Z)(f:∀b,lo<=b->b<w.heap.size->p b):IntP w p n v Z:=by obtain⟨N,c,d⟩:=h;exact⟨N,c.toP f,d⟩
theorem IntP.imp(h:IntP w p n v Z)(f:∀b,b<w.heap.size->p b->q b):IntP w q n v Z:=by obtain⟨N,c,d⟩:=h;exact⟨N,c.imp f,d⟩
theorem IntP.of_blocks(h:IntP w p n v Z)(f:w.heap.size<=w'.heap.size)(d:∀k,p k->k<w.heap.size->w'.heap[k]?=w.heap[k]?):IntP w' p n v Z:=by obtain⟨N,b,c⟩:=h;exact⟨N,b.of_blocks f d,c⟩
theorem IntP.slice(h:IntP w p n v Z):∃A k c,v=zL A k c:=by obtain⟨N,b,_⟩:=h;exact qeS b.toV
theorem IntsL.of_blocks(h:IntsL w p A Zs)(r:w.heap.size<=w'.heap.size)(m:∀k,p k->k<w.heap.size->w'.heap[k]?=w.heap[k]?):IntsL w' p A Zs:=fun hz=>by
 obtain⟨b,o,e,d,c,l⟩:=h hz
 refine⟨b,o,e,d,U0,fun j hj=>?_⟩
 obtain⟨n,v,f,g⟩:=l j hj
 refine⟨n,v,fun i u hu=>?_,g.of_blocks r m⟩
 have:w'.cell? (zA b (o+j*2+i))=w.cell? (zA b (o+j*2+i)):=by
  unfold World.cell?
  rw[m b d c]
 exact this.trans (f i u hu)
theorem IntsL.grow(h:IntsL w p A Zs)(b:zB w w'):IntsL w' p A Zs:=h.of_blocks b.size fun k _ hk=>b.block k hk
theorem IntsL.imp(h:IntsL w p A Zs)(k:∀b,b<w.heap.size->p b->q b):IntsL w q A Zs:=fun hz=>by
 obtain⟨b,o,e,d,c,i⟩:=h hz
 refine⟨b,o,e,k b c d,c,fun j hj=>?_⟩
 obtain⟨n,v,f,g⟩:=i j hj
 exact⟨n,v,f,g.imp k⟩
theorem IOwn.nil(w:Wo)(B:Nat)(p:Nat->Prop):IOwn w B p (zL none 0 0) []:=⟨[],World.ownsRow_nil _ _ _ _,fun j hj=>by simp at hj⟩
theorem IOwn.grow(h:IOwn w B p v Zs)(m:zB w w'):IOwn w' B p v Zs:=by
 obtain⟨l,b,f⟩:=h;refine⟨l,⟨b.1,?_⟩,fun j hj=>?_⟩
 . rcases b.2 with h|⟨g,cap,cur,hv,hB,hh,r⟩
   . exact .inl h
   . exact .inr ⟨g,cap,cur,hv,hB,(m.block g (Array.getElem?_eq_some_iff.1 hh).1).trans hh,r⟩
 . obtain⟨n,u,c,d,i⟩:=f j hj;exact⟨n,u,c,d,i.of_blocks m.size fun k _ hk=>m.block k hk⟩
theorem IOwn.form(h:IOwn w B p v Zs):∃A c,v=zL A Zs.length c/\Zs.length<=c/\(0<Zs.length->∃g,A=some (zA g 0)/\B<=g/\g<w.heap.size):=by
 obtain⟨l,d,_⟩:=h;rcases d.2 with⟨e,b⟩|⟨g,cap,cur,k,f,j,i,_⟩
 . exact⟨none,0,by rw[b];exact e,U0,fun h=>U0⟩
 . exact⟨_,_,k,i,fun _=>⟨g,rfl,f,(Array.getElem?_eq_some_iff.1 j).1⟩⟩
theorem IOwn.read(h:IOwn w B p (zL A Zs.length N) Zs){j:Nat}(y:j<Zs.length):∃ g n u,A=some (zA g 0)/\B<=g/\g<w.heap.size/\w.rangeAt g (j*2) [.bool n,u]/\w.there g (j*2) 2/\IntP w (fun b=>p b/\b≠g) n u (Zs.getD j 0):=by
 obtain⟨s,c,e,_,r⟩:=h.form;obtain⟨g,d,q,k⟩:=r U0;injection e with e3 _ e4;subst e3;subst d;obtain⟨t,f,m⟩:=h;obtain⟨n,u,l,d,o⟩:=m j y;have c0:w.cell? (zA g (j*2))=some (.bool n):=by rw[World.ownsRow.cellAt f (j*2) U0,l]
 have c1:w.cell? (zA g (j*2+1))=some u:=by rw[World.ownsRow.cellAt f (j*2+1) U0,d]
 refine⟨g,n,u,rfl,q,k,fun i x hx=>?_,fun i hi=>?_,o.imp fun b _ hb=>⟨hb.1,fun e=>hb.2 (by rw[e];rfl)⟩⟩
 . match i,hx with
   |0,hx=>injection hx with hx;rw[<- hx];exact c0
   |1,hx=>injection hx with hx;rw[<- hx];exact c1
   |i+2,hx=>simp at hx
 . refine⟨?_,World.ownsRow.frozenAt f _⟩;match i,hi with
   |0,_=>rw[Nat.add_zero,c0];rfl
   |1,_=>rw[c1];rfl
theorem IOwn.toL(h:IOwn w B p (zL A Zs.length N) Zs)(t:∀b,B<=b->b<w.heap.size->A=some (zA b 0)->q b)(s:∀b,b<w.heap.size->p b->q b):IntsL w q A Zs:=fun hz=>by
 obtain⟨o,c,e,_,m⟩:=h.form
 obtain⟨g,f,l,d⟩:=m hz
 injection e with e3 _ e4
 subst e3
 subst f
 refine⟨g,0,rfl,t g l d rfl,d,fun j hj=>?_⟩
 obtain⟨r,n,u,e,_,_,i,_,k⟩:=h.read hj
 injection e with e
 injection e with e
 subst e
 exact⟨n,u,by rw[Nat.zero_add];exact i,k.imp fun b hb h=>s b hb h.1⟩
end
end Go.Proofs.YtflejelbdlelpaaGreat
namespace Go.Proofs.YtflejelbdlelpaaGreat
open Go.RowKit Pln Go.Proofs.Tryz
theorem infoInteger:(prog.info? 189).map (fun i=>(i.zero,i.size,i.bytes))=some (some (.agg #[.bool false,zL none 0 0]),2,32):=U1
section
variable {w w':Wo} {p:Nat->Prop} {B g c:Nat} {n:Bool} {u v:Value} {Z:Int} {Zs:LI}
theorem IOwn.set(h:IOwn w B p (zS g Zs.length c) Zs){j:Nat}(z:j<Zs.length)(y:IntP w (fun b=>p b/\b≠g) n u Z):IOwn (w.setCells g (j*2) [.bool n,u]) B p (zS g Zs.length c) (Zs.set j Z):=by
 obtain⟨t,f,r⟩:=h;have l:(w.setCells g (j*2) [.bool n,u]).heap.size=w.heap.size:=by simp[World.setCells]
 have d:∀k,k≠g->(w.setCells g (j*2) [.bool n,u]).heap[k]?=w.heap[k]?:=fun k hk=>by show((w.setCell (zA g (j*2)) (.bool n)).setCell (zA g (j*2+1)) u).heap[k]?=_;exact(Below.heap_setCell _ _ _ k (by show k≠g;exact hk)).trans (Below.heap_setCell _ _ _ k (by show k≠g;exact hk))
 refine⟨(t.set (j*2) (.bool n)).set (j*2+1) u,?_,fun i hi=>?_⟩
 . rw[List.length_set];exact(World.ownsRow.stored (World.ownsRow.stored f (j*2) (.bool n)).1 (j*2+1) u).1
 . rw[List.length_set] at hi;have v:=f.1;by_cases e:i=j
   . subst e;refine⟨n,u,by rw[List.getElem?_set_ne U0,List.getElem?_set_self U0],by rw[List.getElem?_set_self (by rw[List.length_set];omega)],?_⟩;(have:(Zs.set i Z).getD i 0=Z:=by simp[List.getD,hi]);rw[this];refine(y.of_blocks (by rw[l];exact Nat.le_refl _) fun k hk _=>d k hk.2).imp fun b _ d=>⟨d.1,fun e=>d.2 ?_⟩;simpa[Value.ownBlock] using e.symm
   . obtain⟨m,x,o,q,s⟩:=r i hi;refine⟨m,x,by rw[List.getElem?_set_ne U0,List.getElem?_set_ne U0];exact o,by rw[List.getElem?_set_ne U0,List.getElem?_set_ne U0];exact q,?_⟩;(have:(Zs.set j Z).getD i 0=Zs.getD i 0:=by simp[List.getD,show j≠i by omega]);rw[this];exact s.of_blocks (by rw[l];exact Nat.le_refl _) fun k hk _=>d k fun e=>hk.2 (by rw[e];rfl)
theorem NatP.zero(w:Wo)(p:Nat->Prop):NatP w p (zL none 0 0) 0:=⟨none,[],0,rfl,Nat.le_refl _,⟨U2,U2⟩,rfl,fun h=>by simp at h⟩
theorem IOwn.of_make{k:Nat}(h:w.ownsRow B 189 2 (zS g k c) k (madeCells (Value.agg #[.bool false,zL none 0 0]).cells (k*2)).toList):IOwn w B p (zS g k c) (List.replicate k 0):=by
 refine⟨_,by rw[List.length_replicate];exact h,fun j hj=>?_⟩;rw[List.length_replicate] at hj;have e:(List.replicate k (0:Int)).getD j 0=0:=by simp[List.getD,List.getElem?_replicate];split<;>rfl
 rw[e];refine⟨false,zL none 0 0,?_,?_,0,NatP.zero _ _,rfl⟩
 . simp[madeCells,Value.cells,show j*2<k*2 by omega]
 . simp[madeCells,Value.cells,show j*2+1<k*2 by omega,Nat.add_mod]
theorem IOwn.lit(d:IntP w p n u Z):IOwn (w.alloc (.cells #[.bool n,u] 189)) w.heap.size p (zS w.heap.size 1 1) [Z]:=by
 have c:(w.alloc (.cells #[.bool n,u] 189)).heap[w.heap.size]?=some (.cells #[.bool n,u] 189 (0,0)):=heap_alloc_new _ _;refine⟨[.bool n,u],⟨rfl,.inr ⟨w.heap.size,1,#[.bool n,u],rfl,Nat.le_refl _,c,Nat.le_refl _,ml,rfl,rfl⟩⟩,fun j hj=>?_⟩;obtain rfl:j=0:=by simpa using hj
 refine⟨n,u,rfl,rfl,?_⟩;refine(d.imp fun b hb hp=>⟨hp,Nat.ne_of_lt hb⟩:IntP w (fun b=>p b/\b≠w.heap.size) n u Z).of_blocks U2 (fun k c hlt=>heap_alloc_old _ _ hlt) |>.imp fun b _ hb=>⟨hb.1,fun e=>hb.2 ?_⟩
 simpa[Value.ownBlock] using e.symm
theorem IOwn.append(h:IOwn w B p v Zs)(M:B<=w.heap.size){b:Nat}(L:w.heap[b]?=some (.cells #[.bool n,u] 189 (0,0)))(O:IntP w (fun b=>p b/\v.ownBlock≠some b) n u Z)(N:u.oneCell'=true)(Q:Zs.length<=1000000):
 ∃v' w',(Builtin.append_ #[187,187] 187 #[v,zS b 1 1]).run prog w=.ok v' w'/\IOwn w' B p v' (Zs++[Z])/\Below B w w'/\w.heap.size<=w'.heap.size/\∀k,k<w.heap.size->v.ownBlock≠some k->w'.heap[k]?=w.heap[k]?:=by
 obtain⟨J,s,x,z,A⟩:=qaF infoInteger;obtain⟨o,t,H⟩:=h
 obtain ⟨g,cap,w',l,i,d,r,f⟩:=run_append_lies (P:=prog) (w:=w) 187 187 B 189 J _ 2 32 underlying187 s x z A rfl dc v Zs.length o t (zA b 0) 1 1 [.bool n,u] rfl (World.news_of_block L)
  (fun y hy=>by
    simp only[List.mem_cons,List.not_mem_nil,or_false] at hy
    rcases hy with rfl|rfl
    . rfl
    . exact N) U0 ml U0 M w.heap.size rfl
 refine⟨_,w',l,⟨o++[.bool n,u],by rw[List.length_append];exact i,fun j hj=>?_⟩,zV.grown d M (fun k L=>(World.ownsRow.lt t k L).1),d.size,fun k L hne=>d.block k L fun e=>hne e.symm⟩;have K:=t.1;rw[List.length_append,List.length_singleton] at hj;have c:∀{m:Bool}{y:Value}{X:Int},IntP w (fun b=>p b/\v.ownBlock≠some b) m y X->IntP w' (fun b=>p b/\(Value.slice (zO g) (Zs.length+1) cap).ownBlock≠some b) m y X:=fun{m y X} s=>by
  refine((s.imp (q:=fun b=>(p b/\v.ownBlock≠some b)/\b<w.heap.size) fun b hb hp=>⟨hp,hb⟩).of_blocks d.size fun k L f=>d.block k f fun e=>L.1.2 e.symm).imp fun b _ hb=>⟨hb.1.1,fun e=>?_⟩;have E:g=b:=by simpa[Value.ownBlock] using e
  rcases r with h|h
  . exact hb.1.2 (by rw[h,E])
  . have:=hb.2;omega
 by_cases e:j=Zs.length
 . subst e;(have:(Zs++[Z]).getD Zs.length 0=Z:=by simp[List.getD]);rw[this];exact⟨n,u,by rw[List.getElem?_append_right U0];simp[show Zs.length*2-o.length=0 by omega],by rw[List.getElem?_append_right U0];simp[show Zs.length*2+1-o.length=1 by omega],c O⟩
 . obtain⟨m,y,C,D,I⟩:=H j U0;(have:(Zs++[Z]).getD j 0=Zs.getD j 0:=by simp[List.getD,List.getElem?_append_left (show j<Zs.length by omega)]);rw[this];exact⟨m,y,by rw[List.getElem?_append_left U0];exact C,by rw[List.getElem?_append_left U0];exact D,c I⟩
end
theorem infoIntegers:(prog.info? 187).map (fun i=>(i.zero,i.size,i.bytes))=some (some (zL none 0 0),1,24):=U1
def ROwn(w:Wo)(B:Nat)(v:Value)(Ls:List LI):Prop:=
 ∃xs,w.ownsRow B 187 1 v Ls.length xs/\∀j,j<Ls.length->∃A c,xs[j]?=some (zL A (Ls.getD j []).length c)/\IntsL w (fun b=>v.ownBlock≠some b) A (Ls.getD j [])
section
variable {w w':Wo} {p:Nat->Prop} {B g c:Nat} {v:Value} {L:LI} {Ls:List LI} {A:OA}
theorem ROwn.grow(h:ROwn w B v Ls)(l:zB w w'):ROwn w' B v Ls:=by
 obtain⟨k,b,f⟩:=h;refine⟨k,⟨b.1,?_⟩,fun j hj=>?_⟩
 . rcases b.2 with h|⟨g,cap,cur,hv,hB,hh,r⟩
   . exact .inl h
   . exact .inr ⟨g,cap,cur,hv,hB,(l.block g (Array.getElem?_eq_some_iff.1 hh).1).trans hh,r⟩
 . obtain⟨A,c,d,i⟩:=f j hj;exact⟨A,c,d,i.grow l⟩
theorem ROwn.low{B':Nat}(h:ROwn w B v Ls)(f:B'<=B):ROwn w B' v Ls:=by
 obtain⟨d,b,c⟩:=h;refine⟨d,⟨b.1,?_⟩,c⟩;rcases b.2 with h|⟨g,cap,cur,hv,hb,r⟩
 . exact .inl h
 . exact .inr ⟨g,cap,cur,hv,U0,r⟩
theorem ROwn.form(h:ROwn w B v Ls):∃A c,v=zL A Ls.length c/\Ls.length<=c/\(0<Ls.length->∃g,A=some (zA g 0)/\B<=g/\g<w.heap.size):=by
 obtain⟨l,d,_⟩:=h;rcases d.2 with⟨e,b⟩|⟨g,cap,cur,k,f,j,i,_⟩
 . exact⟨none,0,by rw[b];exact e,U0,fun h=>U0⟩
 . exact⟨_,_,k,i,fun _=>⟨g,rfl,f,(Array.getElem?_eq_some_iff.1 j).1⟩⟩
theorem ROwn.read(h:ROwn w B (zL A Ls.length c) Ls){j:Nat}(r:j<Ls.length):∃g A' c',A=some (zA g 0)/\B<=g/\g<w.heap.size/\w.cell? (zA g j)=some (zL A' (Ls.getD j []).length c')/\IntsL w (fun b=>b≠g) A' (Ls.getD j []):=by obtain⟨A',c',e,_,p⟩:=h.form;obtain⟨g,k,o,d⟩:=p U0;injection e with e3 _ e4;subst e3;subst k;obtain⟨q,l,m⟩:=h;obtain⟨f,c2,i,n⟩:=m j r;exact⟨g,f,c2,rfl,o,d,by rw[World.ownsRow.cellAt l j U0,i],n.imp fun b _ hb e=>hb (by rw[e];rfl)⟩
theorem ROwn.lit(f:IntsL w p A L):ROwn (w.alloc (.cells #[zL A L.length c] 187)) w.heap.size (zS w.heap.size 1 1) [L]:=by
 have d:(w.alloc (.cells #[zL A L.length c] 187)).heap[w.heap.size]?=some (.cells #[zL A L.length c] 187 (0,0)):=heap_alloc_new _ _;refine⟨[zL A L.length c],⟨rfl,.inr ⟨w.heap.size,1,#[zL A L.length c],rfl,Nat.le_refl _,d,Nat.le_refl _,ml,rfl,rfl⟩⟩,fun j hj=>?_⟩;obtain rfl:j=0:=by simpa using hj
 refine⟨A,c,rfl,?_⟩;refine(f.imp fun b hb _=>Nat.ne_of_lt hb:IntsL w (fun b=>b≠w.heap.size) A L).of_blocks U2 (fun k d hlt=>heap_alloc_old _ _ hlt) |>.imp fun b _ hb e=>hb ?_
 simpa[Value.ownBlock] using e.symm
theorem ROwn.append(h:ROwn w B v Ls)(K:B<=w.heap.size){b:Nat}(J:w.heap[b]?=some (.cells #[zL A L.length c] 187 (0,0)))(N:IntsL w (fun b=>v.ownBlock≠some b) A L)(O:Ls.length<=1000000):
 ∃v' w',(Builtin.append_ #[222,222] 222 #[v,zS b 1 1]).run prog w=.ok v' w'/\ROwn w' B v' (Ls++[L])/\Below B w w'/\w.heap.size<=w'.heap.size/\(∀k,k<w.heap.size->v.ownBlock≠some k->w'.heap[k]?=w.heap[k]?)/\(v.ownBlock=v'.ownBlock\/v'.ownBlock=some w.heap.size):=by
 obtain⟨H,p,s,t,u⟩:=qaF infoIntegers;obtain⟨x,r,D⟩:=h
 obtain ⟨g,cap,w',o,n,l,i,m⟩:=run_append_lies (P:=prog) (w:=w) 222 222 B 187 H _ 1 24 underlying222 p s t u rfl dc v Ls.length x r (zA b 0) 1 1 [zL A L.length c] rfl (World.news_of_block J)
  (fun y hy=>by
    rw[List.mem_singleton.1 hy]
    rfl) U0 ml U0 K w.heap.size rfl
 refine⟨_,w',o,⟨x++[zL A L.length c],by rw[List.length_append];exact n,fun j hj=>?_⟩,zV.grown l K (fun k J=>(World.ownsRow.lt r k J).1),l.size,fun k J hne=>l.block k J fun e=>hne e.symm,i.imp (fun h=>h) fun h=>by rw[<- h];rfl⟩;have I:=r.1;rw[List.length_append,List.length_singleton] at hj;have d:∀{f:OA}{M:LI},IntsL w (fun b=>v.ownBlock≠some b) f M->IntsL w' (fun b=>(Value.slice (zO g) (Ls.length+1) cap).ownBlock≠some b) f M:=fun{f M} p=>by
  refine((p.imp (q:=fun b=>v.ownBlock≠some b/\b<w.heap.size) fun b hb hp=>⟨hp,hb⟩).of_blocks l.size fun k J m=>l.block k m fun e=>J.1 e.symm).imp fun b _ hb e=>?_;have C:g=b:=by simpa[Value.ownBlock] using e
  rcases i with h|h
  . exact hb.1 (by rw[h,C])
  . have:=hb.2;omega
 by_cases e:j=Ls.length
 . subst e;(have:(Ls++[L]).getD Ls.length []=L:=by simp[List.getD]);rw[this];exact⟨A,c,by rw[List.getElem?_append_right U0];simp[show Ls.length-x.length=0 by omega],d N⟩
 . obtain⟨f,c2,z,E⟩:=D j U0;(have:(Ls++[L]).getD j []=Ls.getD j []:=by simp[List.getD,List.getElem?_append_left (show j<Ls.length by omega)]);rw[this];exact⟨f,c2,by rw[List.getElem?_append_left U0];exact z,d E⟩
end
end Go.Proofs.YtflejelbdlelpaaGreat
namespace Go.Proofs.YtflejelbdlelpaaGreat
open Go.RowKit Pln
open Al (ColsOk)
def opsS(d:StD):Ops:=opsT d.p.toNat d.m.toNat (lOf d.p d.m d.mod)
def Leaf1(s:StD):Prop:=s.low=1\/s.low<=3/\ColsOk (opsS s) (kerM (opsS s) (natR s.gen) s.n.toNat) s.n.toNat (decide (s.low=3))
theorem qbG{d:StD}(b:formZ d=0):codeZ d.p d.m d.mod d.n d.gen=0:=by
 unfold formZ at b;split at b
 . rename_i hz;exact absurd b hz
 . rename_i hz;exact Classical.byContradiction hz
theorem form_err{d:StD}(c:formZ d=0):errC d.p d.m d.mod d.n d.gen=0:=by
 obtain⟨_,_,b⟩:=codeZ_n (qbG c);unfold spZ at b;split at b
 . rename_i he;exact absurd b he
 . rename_i he;exact Classical.byContradiction he
theorem ker_grid{q n cols:Nat}{O:Ops}(h:Al.Fld q O){rows:LL}(d:Grid q n cols rows):(kerM O rows cols).length<=cols/\∀r∈kerM O rows cols,r.length=cols/\∀x∈r,x<q:=by have b:=canon_grid h.self d;have c:=kerRows_grid (piv:=(elGo O rows cols).piv) h.self h.q1 b rfl;refine⟨?_,(canon_grid h.self c).2⟩;unfold kerM;rw[canonM_len];exact(qeN _ _).1
end Go.Proofs.YtflejelbdlelpaaGreat
namespace Go.Proofs.YtflejelbdlelpaaGreat
open Go.RowKit Pln
open Al
theorem combO_eq{q n:Nat}{O l:Ops}(E:OpsEq q O l){rows:LL}(k:∀ r∈rows,Dv.Ok q n r):∀ (msg out:LN),(∀ x∈msg,x<q)->Dv.Ok q n out->Dv.combO l out msg rows=Dv.combO O out msg rows:=by
 induction rows with
 |nil=>intro msg out _ _;cases msg<;>rfl
 |cons r rs ih=>
  intro msg out c d;cases msg with
  |nil=>rfl
  |cons x xs=>
   unfold Dv.combO;obtain⟨i,j⟩:=k r List.mem_cons_self;have h:=c x List.mem_cons_self;obtain⟨f,g⟩:=qdB E h d.2 j;by_cases b:x=0
   . rw[if_pos b,if_pos b];exact ih (fun y hy=>k y (List.mem_cons_of_mem _ hy)) xs out (fun y hy=>c y (List.mem_cons_of_mem _ hy)) d
   . rw[if_neg b,if_neg b,<- f];exact ih (fun y hy=>k y (List.mem_cons_of_mem _ hy)) xs _ (fun y hy=>c y (List.mem_cons_of_mem _ hy)) ⟨by unfold Pln.addRow;rw[List.length_zipWith,d.1,i,Nat.min_self],g⟩
theorem cw_lin{s:StD}(u:formZ s=0){hfl:Fld (s.p.toNat^s.m.toNat) (opsS s)}{Q:(Nat->El (s.p.toNat^s.m.toNat) (opsS s) hfl)->Prop}(L:LinF (s.p.toNat^s.m.toNat) (opsS s) hfl Q)(v:∀r∈natR s.gen,Q (wd hfl r)){q:LN}(t:∀x∈q,x<s.p.toNat^s.m.toNat):
 Q (wd hfl (cwO s.p.toNat s.m.toNat (mdOf s.m s.mod) s.n.toNat (natR s.gen) q))/\Dv.Ok (s.p.toNat^s.m.toNat) s.n.toNat (cwO s.p.toNat s.m.toNat (mdOf s.m s.mod) s.n.toNat (natR s.gen) q):=by
 have f:=form_is u;have c:=field_ft f.field;have l:=(fld_of c).q1;have g:(mdOf s.m s.mod).length=s.m.toNat:=by
  have o:=qeQ (by have h:=f.field;unfold fieldOK at h;rw[Bool.and_eq_true] at h;exact h.1:shapeM s.p s.m s.mod=true);by_cases b:s.m=1
  . rw[b];simp[mdOf]
  . unfold mdOf;rw[if_neg b,List.length_map,o.len b]
 have k:Dv.Ok (s.p.toNat^s.m.toNat) s.n.toNat (List.replicate s.n.toNat 0):=⟨U2,fun x hx=>by rw[(List.mem_replicate.1 hx).2];omega⟩;have d:∀r∈natR s.gen,Dv.Ok (s.p.toNat^s.m.toNat) s.n.toNat r:=fun r h=>f.grid.2 r h;have i:OpsEq (s.p.toNat^s.m.toNat) (opsS s) (refOps s.p.toNat s.m.toNat (mdOf s.m s.mod)):=ops_eq c g;have e:=combO_eq i d q _ t k;unfold cwO;rw[e];refine L.comb (fun r h=>⟨d r h,v r h⟩) q _ t k ?_;rw[show wd hfl (List.replicate s.n.toNat 0)=fun _=>0 from funext fun j=>qeH _ _];exact L.zero
theorem qgB{d:StD}(f:formZ d=0):canonM (opsS d) (natR d.gen) d.n.toNat=natR d.gen:=by
 obtain⟨_,_,b⟩:=codeZ_n (qbG f);unfold spZ at b;rw[if_neg (by rw[form_err f];simp)] at b;split at b
 . rename_i h;have c:natR (nzs (canZ d.p d.m d.mod d.n d.gen))=canZ d.p d.m d.mod d.n d.gen:=natR_nzs _;rw[h] at c;exact c.symm
 . cases b
theorem leaf_law1{s:StD}(q:formZ s=0)(h:Leaf1 s){o:LN}(v:∀x∈o,x<s.p.toNat^s.m.toNat)(t:Dv.wt (cwO s.p.toNat s.m.toNat (mdOf s.m s.mod) s.n.toNat (natR s.gen) o)≠0):s.low<=(Dv.wt (cwO s.p.toNat s.m.toNat (mdOf s.m s.mod) s.n.toNat (natR s.gen) o):Int):=by
 have c:=form_is q;rcases h with h|⟨h3,hc⟩
 . omega
 . have b:Fld (s.p.toNat^s.m.toNat) (opsS s):=fld_of (field_ft c.field);have H:=El.fd (h:=b);have d:=ker_grid b c.grid;(have L:LinF (s.p.toNat^s.m.toNat) (opsS s) b fun f=>∀u∈kerM (opsS s) (natR s.gen) s.n.toNat,sm s.n.toNat (fun j=>f j*wd b u j)=0:=by refine⟨fun g _=>H.sm_zero fun j _=>H.zmul _,fun f g a q hg u hu=>?_⟩;(have e:sm s.n.toNat (fun j=>(f j+a*g j)*wd b u j)=sm s.n.toNat (fun j=>f j*wd b u j+a*(g j*wd b u j)):=H.sm_congr fun j _=>by rw[H.rdist,H.mulA]);rw[e,H.sm_lin,q u hu,hg u hu,H.mulZ,H.addZ]);obtain⟨k,i⟩:=cw_lin q L (fun g hg u hu=>ker_orth (h:=b) c.grid u hu g (by rw[qgB q];exact hg)) v;have l:=cols_wt (low:=s.low.toNat) b hc (fun r hr=>(d.2 r hr).2) i k t U0 (fun h=>decide_eq_true (by have:=c.low1;omega));omega
end Go.Proofs.YtflejelbdlelpaaGreat
