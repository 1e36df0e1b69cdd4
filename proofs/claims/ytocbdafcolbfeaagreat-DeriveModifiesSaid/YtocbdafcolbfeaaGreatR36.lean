/- Parts of the proof. -/
import Derived.Test.YtocbdafcolbfeaaGreatR33
import Derived.Test.YtocbdafcolbfeaaGreatR30
set_option maxRecDepth 100000
set_option maxHeartbeats 8000000
namespace Go.Proofs.YtocbdafcolbfeaaGreat
open Go.RowKit Pln Go.Proofs.Tryz
theorem two_ne_c(p m:Int)(mod:LI)(n:Nat)(f c:Int)(b:LI)(d:Nat)(g i:OA)(j k:Nat)(l o:List LI)(A B:OA)(ca cb:Nat)(w:Wo)(r:CD.At ⟨p,m,mod,g,j,n,l,A,ca⟩ w)(s:CD.At ⟨f,c,b,i,k,d,o,B,cb⟩ w)(q:¬(p=f/\m=c/\mod=b/\n=d)):
 zC 130 #[C8 p m g mod.length j n A l.length ca,C8 f c i b.length k d B o.length cb] w fun e w'=>(∃z:Int,z≠0/\e=.returned (Y z))/\zB w w':=
 (two_u p m mod n f c b d g i j k l o A B ca cb w r s).mono fun _ _ ⟨⟨z,he,hz⟩,hB⟩=>⟨⟨z,fun h=>q (hz.1 h),he⟩,hB⟩
theorem inside_ne_c(p m:Int)(mod:LI)(n:Nat)(y v:Int)(r:LI)(x:Nat)(s C:OA)(t D:Nat)(u E:List LI)(A B:OA)(ca cb:Nat)(w:Wo)(I:CD.At ⟨p,m,mod,s,t,n,u,A,ca⟩ w)(J:CD.At ⟨y,v,r,C,D,x,E,B,cb⟩ w)(H:¬(p=y/\m=v/\mod=r/\n=x)):
 zC 61 #[C8 p m s mod.length t n A u.length ca,C8 y v C r.length D x B E.length cb] w fun e w'=>(∃z:Int,z≠0/\e=.returned (.tuple #[.bool false,Y z]))/\zB w w':=by
 have b:zK (BXT w [((C2 p m s mod.length t n A u.length ca),32),((C2 y v C r.length D x B E.length cb),32)] _):=((BXT.nil w).push rfl (C2 p m s mod.length t n A u.length ca) 32).push U2 (C2 y v C r.length D x B E.length cb) 32;have g:=zH<|fun W hW=>two_ne_c p m mod n y v r x s C t D u E A B ca cb W (I.keep hW) (J.keep hW) H
 clear I J H;go_enter func61,ntmps61;go_upto_region 1 with fail;generalize (w.alloc (C4 p m s mod.length t n A u.length ca)).alloc (C4 y v C r.length D x B E.length cb)=j at *;have d:zK (j.rangeAt w.heap.size 0 (C2 p m s mod.length t n A u.length ca)):=b.o.range (i:=0) rfl;have f:=zH<|b.o.range (i:=1) rfl
 have c:=zH (g.o j b.o.below);go_wp2_with (first|(refine wpList_load_mid rfl 32 (.tmp 2) rfl w.heap.size 0 rfl (C2 p m s mod.length t n A u.length ca) _ d.o underlying32 rfl codeSz ?_)|(refine wpList_load_mid rfl 32 (.tmp 3) rfl (w.heap.size+1) 0 rfl (C2 y v C r.length D x B E.length cb) _ f.o underlying32 rfl codeSz ?_));go_fit c.o;rintro e q ⟨⟨z,hz,rfl⟩,hb1⟩;have l:=bne_iff_ne.2 hz;have k:=zH hz;have h:=zH (b.o.grow hb1);clear hz hb1;go_wp2;go_ret2;exact⟨⟨z,k.o,rfl⟩,h.o.below⟩
def One6(s p:StD):Prop:=(s.p=p.p/\s.m=p.m/\s.mod=p.mod/\s.n=p.n)/\(∀r∈natR s.gen,∀h:Al.Fld (s.p.toNat^s.m.toNat) (opsT s.p.toNat s.m.toNat (lOf s.p s.m s.mod)),Al.InC h s.n.toNat (natR p.gen) (Al.wd h r))/\s.low<=p.low
def I6Post(w:Wo)(s p:StD)(e:Ending)(w':Wo):Prop:=(∃(b:Bool)(z:Int),e=.returned (.tuple #[.bool b,Y z])/\(z=0->b=true->(s.p=p.p/\s.m=p.m/\s.mod=p.mod/\s.n=p.n)/\(∀r∈natR s.gen,∀h:Al.Fld (s.p.toNat^s.m.toNat) (opsT s.p.toNat s.m.toNat (lOf s.p s.m s.mod)),Al.InC h s.n.toNat (natR p.gen) (Al.wd h r))))/\zB w w'
theorem one_6(s p:StD)(cs cp:List Value)(w:Wo)(hs:StC w w.heap.size s cs)(hp:StC w w.heap.size p cp)(fs:formZ s=0)(fp:formZ p=0)(hk:s.rule=6):
 zC 29 #[.agg cs.toArray,.agg cp.toArray] w (ItPost w (One6 s p)):=by
 obtain⟨M,N,A2,A3,A4,A5,A6,A7,A8,A9,c,d,k,l,q,r,t,u,v,x,rfl,_,h1,h2,_,h4,_⟩:=hs;obtain⟨O,P,B2,B3,B4,B5,B6,B7,B8,B9,f,g,y,A,B,C,D,E,H,I,rfl,_,j1,j2,_⟩:=hp;have hS:=form_is fs;have hP:=form_is fp;have J:zK (BXT w [(stCells s M N A2 A3 A4 A5 A6 A7 A8 A9 c d k l q r t u v x,40),(stCells p O P B2 B3 B4 B5 B6 B7 B8 B9 f g y A B C D E H I,40)] _):=((BXT.nil w).push rfl (stCells s M N A2 A3 A4 A5 A6 A7 A8 A9 c d k l q r t u v x) 40).push U2 (stCells p O P B2 B3 B4 B5 B6 B7 B8 B9 f g y A B C D E H I) 40;have U:zK (((w.alloc (.cells (stCells s M N A2 A3 A4 A5 A6 A7 A8 A9 c d k l q r t u v x).toArray 40)).alloc (.cells (stCells p O P B2 B3 B4 B5 B6 B7 B8 B9 f g y A B C D E H I).toArray 40)).heap.size=w.heap.size+2):=U8;have Z:((p.n.toNat:Nat):Int)=p.n:=by have:=hP.n1;omega
 have Q:((s.n.toNat:Nat):Int)=s.n:=by have:=hS.n1;omega
 have T:zK (∀W,zB w W->zC 61 #[C8 s.p s.m M s.mod.length c s.n N s.gen.length d,C8 p.p p.m O p.mod.length f p.n P p.gen.length g] W (I6Post W s p)):=fun W hW=>by
  have ac:CD.At ⟨s.p,s.m,s.mod,M,c,(s.n.toNat:Int),s.gen,N,d⟩ W:=⟨(h1.keep hW).more hW.size,(h2.keep hW).more hW.size,by rw[Q];exact qbG fs⟩;have X:CD.At ⟨p.p,p.m,p.mod,O,f,(p.n.toNat:Int),p.gen,P,g⟩ W:=⟨(j1.keep hW).more hW.size,(j2.keep hW).more hW.size,by rw[Z];exact qbG fp⟩;by_cases he:s.p=p.p/\s.m=p.m/\s.mod=p.mod/\s.n.toNat=p.n.toNat
  . obtain⟨e1,e2,e3,e4⟩:=he;rw[<- e1,<- e2,<- e3,<- e4] at X;have:=cinside_c s.p s.m s.mod s.n.toNat M O c f s.gen p.gen N P d g W ac X;rw[Q] at this;rw[<- e1,<- e2,<- e3,show p.n=s.n by omega];refine this.mono ?_;rintro e w' ⟨⟨b,rfl,hb⟩,hbl⟩;exact⟨⟨b,0,rfl,fun _ h=>⟨⟨e1,e2,e3,U0⟩,hb h⟩⟩,hbl⟩
  . have:=inside_ne_c s.p s.m s.mod s.n.toNat p.p p.m p.mod p.n.toNat M O c f s.gen p.gen N P d g W ac X he;rw[Q,Z] at this;refine this.mono ?_;rintro e w' ⟨⟨z,hz,rfl⟩,hbl⟩;exact⟨⟨false,z,rfl,fun h=>absurd h hz⟩,hbl⟩
 have HR:=zH hk;clear h1 h2 h4 j1 j2 hS hP fs fp hk Z Q;go_enter func29,ntmps29;go_upto_region 1 with fail;generalize (w.alloc (.cells (stCells s M N A2 A3 A4 A5 A6 A7 A8 A9 c d k l q r t u v x).toArray 40)).alloc (.cells (stCells p O P B2 B3 B4 B5 B6 B7 B8 B9 f g y A B C D E H I).toArray 40)=V at *;have y3:V.cell? (zA (w.heap.size+1) 6)=some (Y p.low):=J.o.cell (i:=1) rfl rfl;have L:zB V (V.alloc (Ca)):=zV.alloc zn _;have y4:(V.alloc (Ca)).cell? (zA (w.heap.size+1) 6)=some (Y p.low):=(J.o.grow L).cell (i:=1) rfl rfl;have af:=U.o;clear L;go_cut [5,6,7] (fun v5 v6 v7 wx=>v5=zP (w.heap.size+2)/\v6=Y 0/\v7=Y p.low/\wx=(V.alloc (Ca)).drew);case first=>
  clear J T HR;go_region
  all_goals
   go_wp2
   go_meet
   exact⟨rfl,rfl,rfl,rfl⟩
 case rest=>
  obtain⟨rfl,rfl,rfl,ad⟩:=hcut;have j:zK (BXT w [(stCells s M N A2 A3 A4 A5 A6 A7 A8 A9 c d k l q r t u v x,40),(stCells p O P B2 B3 B4 B5 B6 B7 B8 B9 f g y A B C D E H I,40),((Cd),32)] wc):=by show BXT _ _ _;rw[ad];exact(J.o.push U.o (Cd) 32).grow zV.drew
  clear ad y3 y4 J af U;clear V;have y0:wc.cell? (zA w.heap.size 0)=some (Y 6):=by rw[<- HR.o];exact j.o.cell (i:=0) rfl rfl
  have y1:wc.cell? (zA w.heap.size 1)=some (Y s.p):=j.o.cell (i:=0) rfl rfl;have y2:wc.cell? (zA w.heap.size 2)=some (Y s.m):=j.o.cell (i:=0) rfl rfl;have y3:wc.cell? (zA w.heap.size 3)=some (zL M s.mod.length c):=j.o.cell (i:=0) rfl rfl;have y4:wc.cell? (zA w.heap.size 4)=some (Y s.n):=j.o.cell (i:=0) rfl rfl;have y5:wc.cell? (zA w.heap.size 5)=some (zL N s.gen.length d):=j.o.cell (i:=0) rfl rfl;have p1:wc.cell? (zA (w.heap.size+1) 1)=some (Y p.p):=j.o.cell (i:=1) rfl rfl;have p2:wc.cell? (zA (w.heap.size+1) 2)=some (Y p.m):=j.o.cell (i:=1) rfl rfl;have p3:wc.cell? (zA (w.heap.size+1) 3)=some (zL O p.mod.length f):=j.o.cell (i:=1) rfl rfl;have p4:wc.cell? (zA (w.heap.size+1) 4)=some (Y p.n):=j.o.cell (i:=1) rfl rfl;have p5:wc.cell? (zA (w.heap.size+1) 5)=some (zL P p.gen.length g):=j.o.cell (i:=1) rfl rfl;have ab:=zH (T.o wc j.o.below);go_wp2_with fail;go_fit ab.o;rintro e w1 ⟨⟨b,z,rfl,L⟩,hb1⟩;have K:=zH (j.o.grow hb1);have S:=zH L;clear hb1 j ab T y0 y1 y2 y3 y4 y5 p1 p2 p3 p4 p5 L;have y6:w1.cell? (zA w.heap.size 6)=some (Y s.low):=K.o.cell (i:=0) rfl rfl;by_cases hz:z=0;rotate_left
  . have ag:=beq_false_of_ne hz;clear S hz;go_wp2;go_ret;exact⟨⟨false,U5,fun h=>by cases h⟩,K.o.below⟩
  have R:zK (b=true->_):=S.o hz;clear S;subst hz;rcases Bool.eq_false_or_eq_true b with hbt|hbt;rotate_left
  . clear R;subst hbt;go_wp2;go_ret;exact⟨⟨false,U5,fun h=>by cases h⟩,K.o.below⟩
  have aa:=zH (R.o hbt);clear R;subst hbt;by_cases ae:s.low<=p.low
  . have HL:=zH ae;go_wp2;go_ret;exact⟨⟨_,rfl,fun _=>⟨aa.o.1,aa.o.2,HL.o⟩⟩,K.o.below⟩
  . go_wp2;go_ret;exact⟨⟨false,U5,fun h=>by cases h⟩,K.o.below⟩
end Go.Proofs.YtocbdafcolbfeaaGreat
namespace Go.Proofs.YtocbdafcolbfeaaGreat
open Go.RowKit Pln
open Al
theorem made_of{s:StD}(y:formZ s=0){p:StD}{N:Nat}{F:Prop}{Q:LN->Prop}(h:MadeC s p.p p.m p.mod N F Q)(v:∀hfl:Fld (s.p.toNat^s.m.toNat) (opsS s),(Nat->El (s.p.toNat^s.m.toNat) (opsS s) hfl)->Prop)(L:∀hfl,LinF (s.p.toNat^s.m.toNat) (opsS s) hfl (v hfl))(A:F->∀hfl r,Q r->v hfl (wd hfl r))(t:F->∀hfl f,v hfl f->wf N f=0\/s.low.toNat<=wf N f){u:LN}(z:∀x∈u,x<s.p.toNat^s.m.toNat):WordOk s u:=by
 obtain⟨rows,c,d,i,o,j,k,q,g,l⟩:=h;have hfl:Fld (s.p.toNat^s.m.toNat) (opsS s):=fld_of (field_ft (form_is y).field);have b:s.n.toNat=N:=U0;refine made_law y (hfl:=hfl) (L hfl) (rows:=rows) ?_ ?_ (fun r hr'=>A g hfl r (l r hr')) (fun f hf=>?_) z
 . rw[c,d,b];exact k
 . rw[b,j];unfold opsS;rw[c,d,i]
 . rw[b];exact t g hfl f hf
end Go.Proofs.YtocbdafcolbfeaaGreat
namespace Go.Proofs.YtocbdafcolbfeaaGreat
open Go.RowKit Pln Go.Proofs.Tryz
theorem RowsB.up{w:Wo}{s:Nat}{P:Nat->Prop}{A:OA}{zs:List LI}(h:RowsB w P A zs)(r:∀k,P k->s<=k):RowsUp w s A zs:=fun hz=>by
 obtain⟨b,o,e,f,g,p⟩:=h hz
 refine⟨b,o,e,r b f,g,fun i hi=>?_⟩
 obtain⟨c,q,d,j,l,m,n⟩:=p i hi
 exact⟨c,q,d,j,r c l,m,n⟩
def RelCsu(w1:Wo)(lo:Nat)(O:Ops)(q n:Nat)(ra rb:LL)(v7 v8:Value)(wx:Wo):Prop:=
 ∃(b R:Nat)(out:LL),v7=zP b/\v8=Y 0/\wx.heap[b]?=some (Cl n R out.length out.length)/\RowsUp wx lo (zO R) (nzs out)/\zB w1 wx/\SumRows O q n ra rb out
def CdSum(w:Wo)(p m:Int)(mod:LI)(n:Nat)(ra rb:LL)(e:Ending)(w':Wo):Prop:=
 (∃(A':OA)(c' R:Nat)(out:LL),e=.returned (.tuple #[.agg #[Y p,Y m,zL A' mod.length c',Y (n:Int),zS R out.length out.length],Y 0])/\IntsUp w' w.heap.size A' mod/\RowsUp w' w.heap.size (zO R) (nzs out)/\SumRows (opsT p.toNat m.toNat (lOf p m mod)) (p.toNat^m.toNat) n ra rb out)/\zB w w'
theorem cdsum_c(p m:Int)(mod:LI)(n:Nat)(Am Bm:OA)(cm dm:Nat)(ga gb:List LI)(A B:OA)(ca cb:Nat)(w:Wo)(ha:CD.At ⟨p,m,mod,Am,cm,n,ga,A,ca⟩ w)(hb:CD.At ⟨p,m,mod,Bm,dm,n,gb,B,cb⟩ w):
 zC 187 #[C8 p m Am mod.length cm n A ga.length ca,C8 p m Bm mod.length dm n B gb.length cb] w (CdSum w p m mod n (natR ga) (natR gb)):=by
 have Z:zK (BXT w [((C2 p m Am mod.length cm n A ga.length ca),32),((C2 p m Bm mod.length dm n B gb.length cb),32),((Cd),32)] (((w.alloc (C4 p m Am mod.length cm n A ga.length ca)).alloc (C4 p m Bm mod.length dm n B gb.length cb)).alloc (Ca))):=
  (((BXT.nil w).push rfl (C2 p m Am mod.length cm n A ga.length ca) 32).push U2 (C2 p m Bm mod.length dm n B gb.length cb) 32).push U2 (Cd) 32
 have X:=zH<|fun W hW=>two_c p m mod n Am Bm cm dm ga gb A B ca cb W (ha.keep hW) (hb.keep hW)
 have V:zK (∀W,zB w W->zC 225 #[C7 p m Am mod.length cm,Co n A ga.length ca,Co n B gb.length cb] W (SpSum W (opsT p.toNat m.toNat (lOf p m mod)) (p.toNat^m.toNat) n (natR ga) (natR gb))):=fun W hW=>by obtain⟨_,_,_,_,_,_,a7⟩:=qbW ha.z;obtain⟨_,_,_,_,_,_,b7⟩:=qbW hb.z;dsimp only at a7 b7;have h1:=(ha.keep hW);have h2:=(hb.keep hW);have:=ssum_c p m mod Am cm n (natR ga) (natR gb) A B ca cb W h1.mod (by rw[a7];exact h1.gen) (by rw[b7];exact h2.gen) (by rw[a7];exact h1.z) (by rw[b7];exact h2.z);rw[natR_len,natR_len] at this;exact this
 have N:zK (∀(W:Wo)(R k:Nat),zB w W->zC 157 #[C7 p m Am mod.length cm,.agg #[Y (n:Int),zS R k k],Y 0] W (OfPostA W p m mod n (zO R) k k)):=fun W R k hW=>by obtain⟨_,_,_,a4,_⟩:=qbW ha.z;dsimp only at a4;exact of_any p m mod Am cm n _ k k W ((ha.mod.keep hW).more hW.size) U0
 have K:=zH<|fun W=>gen_c p m Am mod.length cm (n:Int) A ga.length ca W
 have L:=zH<|fun W=>gen_c p m Bm mod.length dm (n:Int) B gb.length cb W
 have J:zK (∀e w',(∃(A':OA)(c' R:Nat)(c:LL),e=.returned (.tuple #[.agg #[Y p,Y m,zL A' mod.length c',Y (n:Int),zS R c.length c.length],Y 0])/\IntsUp w' w.heap.size A' mod/\RowsUp w' w.heap.size (zO R) (nzs c)/\SumRows (opsT p.toNat m.toNat (lOf p m mod)) (p.toNat^m.toNat) n (natR ga) (natR gb) c)/\zB w w'->CdSum w p m mod n (natR ga) (natR gb) e w'):=fun _ _ h=>h;clear ha hb;generalize CdSum w p m mod n (natR ga) (natR gb)=ap at *;generalize (opsT p.toNat m.toNat (lOf p m mod))=O at *;generalize (p.toNat^m.toNat)=q at *;go_enter func187,ntmps187;go_upto_region 1 with fail;generalize ((w.alloc (C4 p m Am mod.length cm n A ga.length ca)).alloc (C4 p m Bm mod.length dm n B gb.length cb)).alloc (Ca)=W0 at *;have l:zK (W0.rangeAt w.heap.size 0 (C2 p m Am mod.length cm n A ga.length ca)):=Z.o.range (i:=0) rfl;have r:=zH<|Z.o.range (i:=1) rfl
 have H:=zH (X.o W0 Z.o.below);go_wp2_with (first|(refine wpList_load_mid rfl 32 (.tmp 2) rfl w.heap.size 0 rfl (C2 p m Am mod.length cm n A ga.length ca) _ l.o underlying32 rfl codeSz ?_)|(refine wpList_load_mid rfl 32 (.tmp 3) rfl (w.heap.size+1) 0 rfl (C2 p m Bm mod.length dm n B gb.length cb) _ r.o underlying32 rfl codeSz ?_));go_fit H.o;rintro e y ⟨rfl,hb1⟩;have f:=zH (Z.o.grow hb1);clear hb1 Z H l r X;have Q:zK (∀ W,LSkA y W->W.rangeAt w.heap.size 0 (C2 p m Am mod.length cm n A ga.length ca)):=fun W hW=>(f.o.grow hW).range (i:=0) rfl;have S:zK (∀ W,LSkA y W->W.rangeAt (w.heap.size+1) 0 (C2 p m Bm mod.length dm n B gb.length cb)):=fun W hW=>(f.o.grow hW).range (i:=1) rfl;have T:zK (∀ W,LSkA y W->W.rangeAt w.heap.size 0 (C5 p m Am mod.length cm)):=fun W hW=>qbO ((f.o.grow hW).range (i:=0) rfl) 0 _ (fun j hj=>by rcases j with _|_|_|j <;> first|rfl|(simp at hj;omega));have U:zK (LSkA y y.drew):=zV.drew;go_upto_region 4 with fail;go_cut [7,8] (fun v7 v8 wx=>RelCsu y (w.heap.size+3) O q n (natR ga) (natR gb) v7 v8 wx);case first =>
  refine wp_region_mixx 12 11 10 (LSkA y) [(1,0),(0,1),(0,2),(0,4),(2,3),(2,5),(2,6),(1,7),(1,8),(1,9)] [(3,11)] default _ (Cq) U1 U1 (fun _ _ d _ _ h=>by cases d<;>exact h) rfl rfl ?_ (fun W hW=>Below.alloc hW (Below.size hW) _) U.o ?_
  . intro a w;unfold ptrTo;go_simp
  simp only[List.map_cons,List.map_nil,List.getD_cons_zero,List.getD_cons_succ];apply x_free rfl
  . intro W;go_simp;rfl
  go_simp;refine x_load_mid rfl 29 (.tmp 17) rfl w.heap.size 0 rfl (C5 p m Am mod.length cm) _ T.o underlying29 rfl fieldSize ?_;go_simp;refine x_load_mid rfl 32 (.tmp 2) rfl w.heap.size 0 rfl (C2 p m Am mod.length cm n A ga.length ca) _ Q.o underlying32 rfl codeSz ?_;go_simp;refine x_load_mid rfl 32 (.tmp 3) rfl (w.heap.size+1) 0 rfl (C2 p m Bm mod.length dm n B gb.length cb) _ S.o underlying32 rfl codeSz ?_;go_simp;apply x_call rfl
  . intro W;go_simp;exact⟨rfl,rfl⟩
  intro W1 aq ac;with_reducible refine(K.o W1).mono ?_
  rintro e w2 ⟨rfl,hb2⟩;refine⟨_,rfl,Below.trans ac (hb2.mono (Below.size ac)),hb2,?_⟩;go_simp;apply x_call rfl
  . intro W;go_simp;exact⟨rfl,rfl⟩
  intro W2 ar ad;with_reducible refine(L.o W2).mono ?_
  rintro e w3 ⟨rfl,hb3⟩;refine⟨_,rfl,Below.trans ad (hb3.mono (Below.size ad)),hb3,?_⟩;go_simp;apply x_call rfl
  . intro W;go_simp;exact⟨rfl,rfl⟩
  intro W3 au x;have M:=zH (V.o W3 (f.o.below.trans (Below.mono x f.o.below.size)));with_reducible refine M.o.mono ?_
  rintro e w5 ⟨⟨R,c,rfl,hr4,t⟩,hb5⟩;have C:=zH t;refine⟨_,rfl,Below.trans x (hb5.mono (Below.size x)),hb5,?_⟩;go_simp
  iterate 3
   apply x_free rfl
   . intro W
     go_simp
     rfl
   go_simp
  refine x_nil ?_;intro W7 b D ae af hF g;have ab:¬(W3.heap.size<=b/\b<w5.heap.size):=fun h=>hF (.inr h);have an:w.heap.size+3<=W3.heap.size:=Nat.le_trans f.o.size (Below.size x)
  have v:=zH <|
   (((hr4.rowsB.keep D.size (fun k hk hk2=>D.block k hk2)).mono (P':=fun k=>k≠b/\w.heap.size+3<=k) (fun k hk _=>⟨fun e=>ab (e ▸ hk),U0⟩)).keep (w':=W7.setRow b (Cm n R c.length c.length)) U2 (fun k hk _=>setRow_other _ _ _ _ hk.1)).up fun k hk=>hk.2
  have ah:zK (zB y (W7.setRow b (Cm n R c.length c.length))):=qaR ae af _;have u:zK ((W7.setRow b (Cm n R c.length c.length)).heap[b]?=some (Cl n R c.length c.length)):=setRow_same _ _ _ _ _ g;unfold ptrTo;refine qcA rfl 54 (.tmp 7) (.tmp 24) rfl b 54 (Cv) (Cm n R c.length c.length) rfl rfl g matSize rfl U3 ?_;go_simp;refine qbH ?_;show wpList _ _ _ _ _ _;clear hr4 hb5 D ae af hF g ab M t an;go_wp2;go_meet;exact⟨b,R,c,rfl,rfl,u.o,v.o,ah.o,C.o⟩
 case rest=>
  obtain⟨b,R,c,rfl,rfl,g,ag,hb,t⟩:=hcut;have u:=zH g;have v:=zH ag;have C:=zH t;have s:=zH (f.o.grow hb);have ao:=zH f.o.size;have l:zK (wc.rangeAt w.heap.size 0 (C5 p m Am mod.length cm)):=qbO (s.o.range (i:=0) rfl) 0 _ (fun j hj=>by rcases j with _|_|_|j<;>first|rfl|(simp at hj;omega));have r:=zH<|qeS u.o
  have I:=zH (N.o wc R c.length s.o.below);clear g ag hb t T Q S U f V N K L;go_wp2_with (first|(refine wpList_load_mid rfl 29 (.tmp 26) rfl w.heap.size 0 rfl (C5 p m Am mod.length cm) _ l.o underlying29 rfl fieldSize ?_)|(refine wpList_load_mid rfl 54 (.tmp 7) rfl b 0 rfl (D8 n R c.length c.length) _ r.o underlying54 rfl matSize ?_));go_fit I.o;rintro e E ⟨⟨A',c',rfl,hi8⟩,hb8⟩;have aa:=zH (s.o.grow hb8);have ai:=zH hi8;have aj:=zH<|v.o.of_blocks hb8.size fun k _ hk=>hb8.block k hk
  have ak:=zH s.o.size;clear hi8 hb8 I l r s v u;have HK:zK (E.heap[w.heap.size+1+1]?=some (Ca)):=aa.o.box 2 _ _ rfl;have HY:zK (BXT w _ (E.setRow (w.heap.size+1+1) (Cw p m A' mod.length c' n R c.length c.length))):=aa.o.set 2 rfl [Y p,Y m,zL A' mod.length c',Y (n:Int),zS R c.length c.length];have al:zK ((E.setRow (w.heap.size+1+1) (Cw p m A' mod.length c' n R c.length c.length)).heap[w.heap.size+1+1]?=some (.cells #[Y p,Y m,zL A' mod.length c',Y (n:Int),zS R c.length c.length] 32 (0,0))):=HY.o.box 2 _ _ rfl;go_wp2_with (refine wpList_store_row rfl 32 (.tmp 4) (.tmp 31) rfl E (w.heap.size+1+1) 32 (C6) (Cw p m A' mod.length c' n R c.length c.length) rfl rfl HK.o codeSz rfl U3 ?_);refine bodyPost_ret (results_row_one (P:=prog) rfl _ _ (w.heap.size+1+1) 32 (Cw p m A' mod.length c' n R c.length c.length) (0,0) _ _ rfl rfl al.o underlying32 rfl codeSz) rfl ?_;have av:w.heap.size+3<=wc.heap.size:=ak.o;refine J.o _ _ ⟨⟨A',c',R,c,rfl,(ai.o.of_blocks U2 fun k hk _=>setRow_other E _ k _ U0).lower U0,(aj.o.of_blocks U2 fun k hk _=>setRow_other E _ k _ U0).lower U0,C.o⟩,HY.o.below⟩
def trT(p m d:Nat)(l:LN)(y:Nat):Nat:=sumO (opsT p m l) 0 (eachL (itN (frN p m l) (d % m)) (m / d) y)
theorem trace_c(y d E B p m:Nat)(mod:LI)(md l:LN)(w:Wo)(hF:FT p m md l)(M:GFM w B E p m mod l (logL l (p^m)))(H:B<=w.heap.size)(K:mod.length<=1000000)(N:y<p^m)(hd:degB m d=true)(I:1<=d)(J:d<=m):
 zC 186 (Cf E y d) w fun e w'=>e=.returned (.tuple (D7 ((trT p m d l y:Nat):Int)))/\zB w w':=by
 have r:=zH (qfG E B p m d mod l _ w M H K hF.small.m2);rw[hd] at r;have t:zK (∀W,zB w W->zC 224 (Cf E y d) W fun e w'=>(∃g,e=.returned (zS g (m / d:Nat) (m / d:Nat))/\Row w' W.heap.size g (m / d) (nz (eachL (itN (frN p m l) (d % m)) (m / d) y)))/\zB W w'):=fun W hW=>by have:=each_c (y:Int) d E B p m mod md l W hF (M.keep (hW.mono H)) (Nat.le_trans H hW.size) K I J;rw[inZ_nat N] at this;exact this
 have i:=eachL_lt hF I J (m / d) (y:Int);rw[inZ_nat N] at i;have A:m / d<=m:=Nat.div_le_self _ _;have x:=hF.small.m2;have h:=qeW (itN (frN p m l) (d % m)) (m / d) y;have v:zK (∀W g c,zB w W->Row W w.heap.size g c (nz (eachL (itN (frN p m l) (d % m)) (m / d) y))->zC 133 #[zP E,zS g (m / d) c] W (Quiet (Y ((trT p m d l y:Nat):Int)) W)):=fun W g c hW hr=>by have:=sum_c E p m W.heap.size md l (eachL (itN (frN p m l) (d % m)) (m / d) y) (zO g) c W hF ((M.keep (hW.mono H)).more (Nat.le_trans H hW.size)).gf i (fun _=>⟨g,0,rfl,hr.lt.2,fun j hj=>by rw[Nat.zero_add];exact hr.cell hj⟩) (by rw[h];omega);rw[h] at this;exact this
 clear hF M hd i h;generalize eachL (itN (frN p m l) (d % m)) (m / d) y=L at *;generalize trT p m d l y=T at *;generalize m / d=n at *;go_enter func186,ntmps186;go_wp2_with fail;go_fit r.o;rintro e z ⟨rfl,hb1⟩;have b:=zH hb1;clear hb1 r;go_wp2_with fail;(with_reducible refine(t.o z b.o).mono ?_);rintro e s ⟨⟨g,rfl,hr⟩,hb2⟩;have f:=zH (b.o.trans (hb2.mono b.o.size));have u:zK (Row s w.heap.size g n (nz L)):=hr.base (by have:=hr.lt.1;have:=b.o.size;omega);clear hr hb2 t b;go_wp2_with fail;(with_reducible refine(v.o s g n f.o u.o).mono ?_);rintro e C ⟨rfl,k,rfl⟩;have q:=zH (qaB f.o k);generalize s.drewN k=D at *;clear v u f;go_wp2;go_ret2;exact⟨rfl,q.o⟩
def EmbOk(w:Wo)(p1 m1:Int)(mod1:LI)(p m:Nat)(l:LN)(A:OA)(n:Nat):Prop:=
 p1=(p:Int)/\n=p1.toNat^m1.toNat/\∃r,r<p^m/\(m1=1\/evN (opsT p m l) (mdOf m1 mod1++[1]) r=0)/\zI w A (nz ((List.range n).map (imN (opsT p m l) p m1.toNat r)))
theorem fields_c(N m1 p m:Int)(M mod:LI)(O A:OA)(c1 c:Nat)(w:Wo)(R:zI w O M)(U:M.length<=1000000)(Q:fieldOK N m1 M=true)(T:zI w A mod)(S:mod.length<=1000000)(P:fieldOK p m mod=true):
 zC 134 #[C7 N m1 O M.length c1,C7 p m A mod.length c,C7 N m1 O M.length c1] w fun e w' =>
  ((∃z : Int,z ≠ 0/\e = .returned (.tuple #[.pointer none,zL none 0 0,Y z]))\/
    ∃(gb n c':Nat)(A':OA),e=.returned (.tuple #[zP gb,zL A' n c',Y 0])/\GFM w' w'.heap.size gb p.toNat m.toNat mod (lOf p m mod) (logL (lOf p m mod) (p.toNat^m.toNat))/\EmbOk w' N m1 M p.toNat m.toNat (lOf p m mod) A' n)/\zB w w':=by
 have B:=field_ft P;have k:zK (∀W,zB w W->zC 46 #[C7 N m1 O M.length c1] W fun e w'=>e=.returned (Y 0)/\zB W w'):=fun W hW=>by have:=fcheck_c N m1 M O c1 W ((R.keep hW).more hW.size) U0;rw[Q] at this;exact this
 have q:zK (∀W,zB w W->zC 72 #[C7 p m A mod.length c] W fun e w'=>(∃gb,e=.returned (.tuple (D4 gb))/\W.heap.size<=gb/\GFM w' w'.heap.size gb p.toNat m.toNat mod (lOf p m mod) (logL (lOf p m mod) (p.toNat^m.toNat)))/\zB W w'):=fun W hW=>
  fnew_any p m mod A c W ((T.keep hW).more hW.size) P
 have l:=zH<|fun W gb hW hG=>
  embed_c N m1 M O c1 gb p.toNat m.toNat mod (mdOf m mod) (lOf p m mod) W ((R.keep hW).more hW.size) U0 B hG S
 have g:zK (BXT w [((C5 N m1 O M.length c1),29),((C5 p m A mod.length c),29),((C5 N m1 O M.length c1),29)] _):=(((BXT.nil w).push rfl (C5 N m1 O M.length c1) 29).push U2 (C5 p m A mod.length c) 29).push U2 (C5 N m1 O M.length c1) 29;clear R T Q P B;go_enter func134,ntmps134;go_wp2_with fail;generalize ((w.alloc (C3 N m1 O M.length c1)).alloc (C3 p m A mod.length c)).alloc (C3 N m1 O M.length c1)=y at *;(with_reducible refine(k.o y g.o.below).mono ?_);rintro e K ⟨rfl,hb1⟩;have f:=zH (g.o.grow hb1);have b:=zH f.o.below;clear hb1 k g;clear y;have r:=zH<|f.o.range (i:=1) rfl
 go_wp2_with (refine wpList_load_mid rfl 29 (.tmp 4) rfl (w.heap.size+1) 0 rfl (C5 p m A mod.length c) _ r.o underlying29 rfl fieldSize ?_);(with_reducible refine(q.o K b.o).mono ?_);rintro e C ⟨⟨gb,rfl,_,hg⟩,hb2⟩;have u:=zH hg;have d:=zH (b.o.trans (hb2.mono b.o.size));have t:=zH (f.o.grow hb2);have s:zK (C.rangeAt w.heap.size 0 (C5 N m1 O M.length c1)):=t.o.range (i:=0) rfl;clear hg hb2 q b r f;go_wp2_with (refine wpList_load_mid rfl 29 (.tmp 3) rfl w.heap.size 0 rfl (C5 N m1 O M.length c1) _ s.o underlying29 rfl fieldSize ?_);(with_reducible refine(l.o C gb d.o u.o).mono ?_);rintro e L ⟨⟨A',n,c',z,rfl,hz⟩,hb3⟩;have x:=zH hz;have v:=zH ((u.o.keep hb3).more hb3.size);have j:=zH (d.o.trans (hb3.mono d.o.size));clear hz hb3 u d l s t;by_cases h:z=0
 . subst h;have D:=zH (x.o rfl);clear x;go_wp2_with fail;refine bodyPost_ret (results_tmp3 rfl _ _ _) rfl ?_;obtain⟨_,E,H,I⟩:=D.o;exact⟨.inr ⟨gb,n,c',A',rfl,v.o,E,H,I⟩,j.o⟩
 . have J:=bne_iff_ne.2 h;clear h x;go_wp2_with fail;refine bodyPost_ret (results_tmp3 rfl _ _ _) rfl ?_;exact⟨.inl ⟨_,dc,rfl⟩,j.o⟩
theorem sclone0_c(a:Addr)(c:Nat)(w:Wo):
 zC 74 #[zL (some a) 0 c] w fun e w'=>(∃g c',e=.returned (zS g 0 c')/\Row w' w.heap.size g c' [])/\zB w w':=by obtain⟨m,i,d,f,h⟩:=qaF infoInt;have b:zK (Row (w.alloc (.cells #[] 3)) w.heap.size w.heap.size 0 []):=World.ownsRow_made w #[] 0 zn U4 rfl;have j:zK (zB w (w.alloc (.cells #[] 3))):=zV.alloc zn _;have l:=fun W a n c n' c'=>Lib.run_eql_slice_nil W 23 3 a n c n' c' underlying23;have k:=qfM (w.alloc (.cells #[] 3)) w.heap.size 23 23 3 m 1 underlying23 i (zS w.heap.size 0 0) 0 [] b.o (some a) c;clear i d f h;go_enter func74,ntmps74;go_wp2;go_ret;exact⟨⟨w.heap.size,0,rfl,b.o⟩,j.o⟩
def RowsE(w:Wo)(B:Nat)(A:OA)(n:Nat):Prop:=0<n->∃b o,A=some (zA b o)/\b<B/\∀i,i<n->∃(a:Addr)(ci:Nat),w.cell? (zA b (o+i))=some (zL (some a) 0 ci)
theorem RowsE.keep{w w':Wo}{B:Nat}{A:OA}{n:Nat}(h:RowsE w B A n)(j:Below B w w'):RowsE w' B A n:=fun h0=>by
 obtain⟨b,o,rfl,c,g⟩:=h h0
 refine⟨b,o,rfl,c,fun i hi=>?_⟩
 obtain⟨a,d,f⟩:=g i hi
 exact⟨a,d,(j.cell (p:=(zA b (o+i))) c).trans f⟩
theorem RowsE.more{w:Wo}{B B':Nat}{A:OA}{n:Nat}(h:RowsE w B A n)(f:B<=B'):RowsE w B' A n:=fun h0=>by
 obtain⟨b,o,rfl,d,c⟩:=h h0
 exact⟨b,o,rfl,U0,c⟩
theorem RowsUp.empty{w:Wo}{m:Nat}{A:OA}{rows:LL}(h:RowsUp w m A (nzs rows))(l:∀r∈rows,r=[]):RowsE w w.heap.size A rows.length:=fun hn=>by
 obtain⟨b,o,rfl,_,g,f⟩:=h (by rw[nzs_len];exact hn)
 refine⟨b,o,rfl,g,fun i hi=>?_⟩
 obtain⟨j,k,d,c,_⟩:=f i (by rw[nzs_len];exact hi)
 rw[nzs_getD,qaA] at c
 have e:rows.getD i []=[]:=by
  have:rows.getD i []=rows[i]:=by simp[List.getD,hi]
  rw[this]
  exact l _ (List.getElem_mem hi)
 rw[e] at c
 exact⟨_,d,c⟩
theorem clone0_c(rows:LL)(A:OA)(c:Nat)(w:Wo)(hA:RowsE w w.heap.size A rows.length)(hr:∀ r∈rows,r=[])(hl:rows.length<=1000000):
 zC 231 #[zL A rows.length c] w fun e w'=>e=.returned (zS w.heap.size rows.length rows.length)/\(∃bs,GridAt w' w.heap.size w.heap.size rows.length rows bs)/\zB w w':=by
 obtain⟨S,q,y,z,B⟩:=qaF infoInts;have V:=zH q;have L:=zH y;have M:=zH z;have D:=zH (show S.bytes*rows.length<=281474976710656 by rw[B];omega);have E:=zH (show rows.length<=maxLen by unfold maxLen;omega);have T:=zH hA;have J:zK (∀k,k<rows.length->rows.getD k []=[]):=fun k O=>by
  have:rows.getD k []=rows[k]:=by simp[List.getD,O]
  rw[this];exact hr _ (List.getElem_mem O)
 clear q y z B hA hr;go_enter func231,ntmps231;go_wp2_with (refine wpList_make_full w rfl (.tmp 7) (.tmp 7) 30 rfl w.heap.size 23 S (zL none 0 0) 1 underlying30 V.o L.o M.o .i64 .i64 rows.length rows.length rows.length rfl rfl rfl rfl D.o E.o zn ?_;intro s f v);have P:zK (RelCl w rows (zN 0) s):=by
  refine⟨0,[],rfl,⟨rfl,Nat.zero_le _,?_,fun i q=>absurd q U0,fun i j q=>absurd q U0⟩,qaL v⟩;have e:(List.range 0).map (hdr rows [])++List.replicate (rows.length-0) (Value.slice none 0 0)=(madeCells (Value.slice none 0 0).cells (rows.length*1)).toList:=by
   apply List.ext_getElem
   . simp[madeCells]
   . intro i Q R;simp[madeCells,Value.cells,Nat.mod_one]
  rw[e];exact f
 clear f v;go_loopw [11] (fun v11 wr=>RelCl w rows v11 wr) (fun v11 _=>rows.length-(intOf v11).toNat);case atStart=>exact P.o
 case round =>
  obtain⟨k,bs,rfl,l,N⟩:=hrel;have n:=zH l;have C:=zH N;have O:=l.le;have x:=N.size;clear l N P;by_cases h:k<rows.length
  . obtain⟨b,o,rfl,Z,u⟩:=(T.o.keep C.o) U0;obtain⟨a,X,hc⟩:=u k h;have m:=J.o k h;(have U:=zH<|sclone0_c a X wr);(have K:zK (∀(s:Wo)(g c:Nat),zB wr s->Row s wr.heap.size g c []->PGrid (s.setCell (zA w.heap.size k) (zS g 0 c)) w.heap.size w.heap.size rows (bs++[(g,c)]) (k+1)):=fun s g c Q R=>by have:=n.o.step h Q x (by rw[m];exact R);rw[m] at this;exact this);have t:=World.ownsRow.lt n.o.out w.heap.size rfl;(have I:=zH<|World.ownsRow.frozenAt n.o.out k);(have H:zK (wr.cell? (zA w.heap.size k)=some (zL none 0 0)):=by show _=_;rw[World.ownsRow.cellAt n.o.out k U0,List.getElem?_append_right U2,List.length_map,List.length_range,Nat.sub_self,List.getElem?_replicate,if_pos U0]);clear u m n;go_wp2_with fail;go_fit U.o;rintro e w2 ⟨⟨g,c',rfl,hrow⟩,hb2⟩;have W:=zH hrow;have d:=zH hb2;have f2:=(hb2.frozen (p:=(zA w.heap.size k)) t.2).trans I.o;have c2:=(hb2.cell (p:=(zA w.heap.size k)) t.2).trans H.o;clear hrow hb2;go_wp2;go_roundw;case rel=>exact⟨k+1,bs++[(g,c')],gn,K.o w2 g c' d.o W.o,(C.o.trans (d.o.mono x)).setCell (p:=(zA w.heap.size k)) zn _⟩
    case measure=>simp[intOf];omega
  . (obtain rfl:k=rows.length:=by omega);go_wp2;go_ret;exact⟨rfl,⟨bs,n.o.done⟩,C.o⟩
theorem canon0_c(H I p m:Nat)(md l:LN)(rows:LL)(A:OA)(c:Nat)(w:Wo)(hF:FT p m md l)(K:GFAt w I H p m l (logL l (p^m)))(E:I<=w.heap.size)(J:RowsE w w.heap.size A rows.length)(D:Grid (p^m) rows.length 0 rows)(L:rows.length<=256):
 zC 194 #[zP H,zL A rows.length c,Y 0] w fun e w'=>(∃(R:Nat)(VA:OA)(ck:Nat),e=.returned (.tuple #[zS R (canonM (opsT p m l) rows 0).length (canonM (opsT p m l) rows 0).length,zL VA (canonM (opsT p m l) rows 0).length ck])/\RowsUp w' w.heap.size (zO R) (nzs (canonM (opsT p m l) rows 0))/\IntsUp w' w.heap.size VA (nz (elGo (opsT p m l) rows 0).piv))/\zB w w':=by
 have g:=zH (clone0_c rows A c w J (fun r hr=>List.eq_nil_of_length_eq_zero (D.2 r hr).1) U0)
 have h:zK (∀(bs:List (Nat × Nat))(b:Wo),zB w b->GridAt b w.heap.size w.heap.size rows.length rows bs->zC 232 #[zP H,zS w.heap.size rows.length rows.length,Y 0,zL none 0 0] b (ElPost b w.heap.size w.heap.size rows.length p m l rows 0)):=
  fun bs b hb hg=>qfQ w.heap.size w.heap.size rows.length H I p m 0 md l rows bs b hF (K.keep (hb.mono E)) E hb.size hg D L U0
 have n:=zH (canonM_len (opsT p m l) rows 0);have f:=zH (elGo_piv (O:=opsT p m l) rows 0);have q:=zH (elGo_len (O:=opsT p m l) rows 0);have j:=zH (canonM_getD (opsT p m l) rows 0);clear hF K J D;generalize canonM (opsT p m l) rows 0=B at *;go_enter func194,ntmps194;go_wp2_with fail;go_fit g.o;rintro e b ⟨rfl,⟨bs,hg⟩,hb⟩;have y:=zH hg;have s:=zH hb;clear hg hb;go_wp2_with fail;(with_reducible refine(h.o bs b s.o y.o).mono ?_);rintro e C ⟨⟨vp,d,bs2,rfl,hown,hgrid⟩,hb2⟩;obtain⟨VA,ck,rfl⟩:=own_slice hown;have v:zK (IntsUp C w.heap.size VA (nz (elGo (opsT p m l) rows 0).piv)):=(ints_of_own hown rfl).lower (by have:=s.o.size;omega);have k:=zH hgrid;have t:=zH (s.o.trans hb2);clear hown hgrid hb2;have z:=zH<|k.o.rowsAt B (by rw[n.o,q.o];exact f.o.2) (fun i hi=>j.o i (by rw[<- n.o];exact hi))
 have x:=f.o.2;rw[<- n.o] at x;have u:=zH n.o.symm;clear n f q j g h k;rw[u.o];go_wp2;go_ret2;exact⟨⟨_,_,_,rfl,z.o,v.o⟩,t.o⟩
theorem qfP(O:Ops)(rows:LL):canonM O rows 0=[]:=List.eq_nil_of_length_eq_zero (by rw[canonM_len];rfl)
theorem kerM_zero(O:Ops)(rows:LL):kerM O rows 0=[]:=qfP _ _
theorem kernel0_c(p m:Int)(mod:LI)(Am:OA)(cm:Nat)(rows:LL)(A:OA)(c:Nat)(w:Wo)(hM:zI w Am mod)(hl:mod.length<=9223372036854775807)(hA:zR w A (nzs rows))(hE:RowsE w w.heap.size A rows.length)(ac:errC p m mod 0 (nzs rows)=0):
 zC 156 #[C7 p m Am mod.length cm,.agg #[Y 0,zL A rows.length c]] w (MatPost w 0 []):=by
 obtain⟨j,Q,u,_,X,Z⟩:=errC_grid ac;have O:=field_ft j;have k:=zH ((box3 w p m Am mod.length cm 0 A rows.length c 54 (Cv)).keep (zV.alloc zn (.cells #[Y 0,zL A rows.length c] 54)));have t:zK (((((w.alloc (C3 p m Am mod.length cm)).alloc (.cells #[Y 0,zL A rows.length c] 54)).alloc (Cq)).alloc (.cells #[Y 0,zL A rows.length c] 54)).heap[w.heap.size+1+1+1]?=some (.cells #[Y 0,zL A rows.length c] 54 (0,0))):=alloc_at U2 _;have K:=zH hM;have H:=zH hA;have U:=zH hE;have q:=zH O;have C:zK (Grid (p.toNat^m.toNat) rows.length 0 rows):=u;clear hM hA hE O ac u;go_enter func156,ntmps156;go_wp2_with fail;generalize (((w.alloc (C3 p m Am mod.length cm)).alloc (.cells #[Y 0,zL A rows.length c] 54)).alloc (Cq)).alloc (.cells #[Y 0,zL A rows.length c] 54)=M at *;have v:(nzs rows).length<=9223372036854775807:=by rw[nzs_len];omega
 have I:=zH (open_c p m mod Am cm 0 (nzs rows) A c (w.heap.size+1+1+1) 1 M ((K.o.keep k.o.below).more k.o.below.size) hl ((H.o.keep k.o.below).more k.o.below.size) v (by rw[nzs_len];exact t.o));go_fit I.o;rintro e x ⟨hb1,hcase⟩;have b:=zH (k.o.keep hb1);have n:=zH ((U.o.keep b.o.below).more b.o.below.size);clear k K H I t hb1;clear M;rcases hcase with⟨d,_⟩|⟨_,E,_⟩|⟨_,_,y,rfl,D⟩
 . rw[j] at d;cases d
 . exact absurd Q E
 clear j Q;have J:=zH D;have f:=zH (canon0_c y x.heap.size p.toNat m.toNat (mdOf m mod) (lOf p m mod) rows A c x q.o D zn n.o C.o Z);have l:zK (∀W:Wo,GFAt W W.heap.size y p.toNat m.toNat (lOf p m mod) (logL (lOf p m mod) (p.toNat^m.toNat))->zC 194 #[zP y,zL none 0 0,Y 0] W fun e w'=>(∃(R:Nat)(VA:OA)(ck:Nat),e=.returned (.tuple #[zS R 0 0,zL VA 0 ck]))/\zB W w'):=fun W hG=>by have:=canon0_c y W.heap.size p.toNat m.toNat (mdOf m mod) (lOf p m mod) [] none 0 W q.o hG zn (fun h=>absurd h U2) ⟨rfl,fun r hr=>by cases hr⟩ U2;rw[qfP] at this;exact this.mono fun e w' ⟨⟨R,VA,ck,h1,_⟩,h2⟩=>⟨⟨R,VA,ck,h1⟩,h2⟩
 rw[qfP] at f;have aa:=b.o.size;have ab:w.heap.size+1<x.heap.size:=U0;have N:x.cell? (zA (w.heap.size+1) 0)=some (Y 0):=cell_of_row _ _ 0 _ _ _ b.o.k1;have V:x.cell? (zA (w.heap.size+1) 1)=some (zL A rows.length c):=cell_of_row _ _ 1 _ _ _ b.o.k1;clear D n;go_wp2_with fail;go_fit f.o;rintro e S ⟨⟨R,VA,ck,rfl,hru,hpv⟩,hb2⟩;have g:=zH (b.o.keep hb2);have B:=zH ((J.o.keep hb2).more hb2.size);clear b f hru hpv J N V;have N:S.cell? (zA (w.heap.size+1) 0)=some (Y 0):=cell_of_row _ _ 0 _ _ _ g.o.k1;clear hb2;go_wp2;go_loopw [10,37] (fun v10 v37 wr=>v10=zL none 0 0/\v37=Y 0/\wr=S) (fun _ v37 _=>0);case atStart=>exact⟨rfl,rfl,rfl⟩
 case round=>obtain⟨rfl,rfl,rfl⟩:=hrel;have z:=zH (l.o wr B.o);go_wp2_with fail;go_fit z.o;rintro e T ⟨⟨R2,VA2,ck2,rfl⟩,hb8⟩;have i:=zH (g.o.keep hb8);have s:=zH i.o.k2;have c8:T.cell? (zA (w.heap.size+1) 0)=some (Y 0):=cell_of_row _ _ 0 _ _ _ i.o.k1;have L:=zH (i.o.set #[Y 0,zS R2 0 0]);clear hb8 g;go_wp2_with (refine wpList_store_row rfl 54 (.tmp 4) (.tmp 85) rfl T (w.heap.size+1+1) 54 (Cv) #[Y 0,zS R2 0 0] rfl rfl s.o matSize rfl U3 ?_);refine bodyPost_ret (results_row_one (P:=prog) rfl _ _ (w.heap.size+1+1) 54 #[Y 0,zS R2 0 0] (0,0) _ _ rfl rfl L.o.k2 underlying54 rfl matSize) rfl ?_;exact⟨⟨_,_,rfl,fun h=>absurd h (by simp[nzs])⟩,L.o.below⟩
end Go.Proofs.YtocbdafcolbfeaaGreat
