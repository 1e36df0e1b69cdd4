/- Parts of the proof. -/
import Derived.Test.YtocbdafcolbfeaaGreatR37
import Derived.Test.YtocbdafcolbfeaaGreatR39
set_option maxRecDepth 100000
set_option maxHeartbeats 8000000
namespace Go.Proofs.YtocbdafcolbfeaaGreat
open Go.RowKit Pln
def One13(s p:StD)(ps ss:LI):Prop:=MadeC s p.p p.m p.mod (p.n.toNat) (MoOk p.n.toNat (p.p.toNat^p.m.toNat) p.m ps ss s.frob) (ImRow (opsT p.p.toNat p.m.toNat (lOf p.p p.m p.mod)) (itN (frN p.p.toNat p.m.toNat (lOf p.p p.m p.mod)) (s.frob.toNat % p.m.toNat)) (natL ps) (natL ss) p.n.toNat (natR p.gen))/\s.low<=p.low
theorem one_13(s p:StD)(d f:LI)(cs cp:List Value)(w:Wo)(o:StC w w.heap.size s cs)(l:StC w w.heap.size p cp)(q:s.ok)(j:formZ s=0)(g:formZ p=0)(k:s.rule=13)(i:StM w w.heap.size d f cs):
 zC 29 #[.agg cs.toArray,.agg cp.toArray] w (ItPost w (One13 s p d f)):=by
 have b:((p.n.toNat:Nat):Int)=p.n:=by have:=(form_is g).n1;omega
 refine one_m s p cs cp w 13 o l q j g k _ _ (.inr (.inr (.inr (.inr (.inl ⟨rfl,rfl,d,f,i,fun W B c B1 c1 A7 A8 c7 c8 _ b1 b2 q1 q2 q3=>?_⟩)))));have:=apply_c p.p p.m p.mod B c p.n.toNat p.gen B1 c1 d f s.frob A7 A8 c7 c8 W ⟨b1,b2,by rw[b];exact qbG g⟩ q1 q2 q3;rw[b] at this;exact this.mono fun e w' h=>conC h
end Go.Proofs.YtocbdafcolbfeaaGreat
namespace Go.Proofs.YtocbdafcolbfeaaGreat
open Go.RowKit Pln
open Al
theorem fr_aut{p m:Nat}{md l:LN}(hF:FT p m md l)(c:∀d,2<=d->d*d<=p->p % d≠0){k:Nat}(b:k<=m):Aut (fld_of hF) (Fr p k) where
 add:=fr_add (chr_of hF) c k
 mul:=fr_mul p k
 zero:=fr_zero (by have:=hF.small.p1;omega) k
 inj x hx:=Classical.byContradiction fun h=>(El.fd (h:=fld_of hF)).pwr_ne h _ hx
 onto y:=⟨Fr p (m-k) y,by rw[qfR,Nat.sub_add_cancel b,fermat hF]⟩
theorem imR_at{O:Ops}{F:Nat->Nat}{P S u:LN}{n:Nat}(f:u.length=n)(g:∀ i,i<n->P.getD i 0<n)(d:∀ i j,i<j->j<n->P.getD i 0≠P.getD j 0){i:Nat}(c:i<n):∀ t,t<=n->(imR O F P S u n t).getD (P.getD i 0) 0=if i<t then O.mul (S.getD i 0) (F (u.getD i 0)) else 0
 |0,_=>by
   rw[if_neg U0]
   unfold imR
   simp only[List.getD,List.getElem?_replicate]
   split<;>rfl
 | t + 1,ht => by
   unfold imR
   rw[qeT _ _ _ _ _ (by rw[imR_len];exact g t U0),imR_at f g d c t U0]
   by_cases e:i=t
   . subst e
     rw[if_pos rfl,if_pos U0]
   . have hne : P.getD i 0 ≠ P.getD t 0 := by
      rcases Nat.lt_or_ge i t with h|h
      . exact d i t h U0
      . exact(d t i U0 c).symm
     rw[if_neg hne]
     by_cases b:i<t
     . rw[if_pos b,if_pos U0]
     . rw[if_neg b,if_neg U0]
theorem im_q{p m:Nat}{md l:LN}(hF:FT p m md l){n k:Nat}{P S:LN}(q:∀i,i<n->P.getD i 0<n)(t:∀i j,i<j->j<n->P.getD i 0≠P.getD j 0)(s:∀i,i<n->S.getD i 0<p^m){A:LL}(o:∀r∈A,Dv.Ok (p^m) n r){r:LN}(v:ImRow (opsT p m l) (itN (frN p m l) k) P S n A r):
 QMap (fld_of hF) n A (fun i=>P.getD i 0) (fun i=>El.of (fld_of hF) (S.getD i 0)) (Fr p k) (wd (fld_of hF) r):=by obtain⟨u,b,rfl⟩:=v;obtain⟨g,h⟩:=o u b;refine⟨wd (fld_of hF) u,InC.mem b,fun i hin=>?_⟩;have f:=getD_ok h (by have:=(fld_of hF).q1;omega) i;obtain⟨c,d⟩:=of_itN hF f k;show El.of _ _=El.of _ _*Fr p k (El.of _ _);rw[imR_at g q t hin n zn,if_pos hin,El.of_mul (s i hin) c,d]
theorem law_13{s p:StD}{C D:LI}(H:formZ s=0)(I:formZ p=0)(K:LowOk p)(h:One13 s p C D){E:LN}(J:∀ x∈E,x<s.p.toNat ^ s.m.toNat):WordOk s E:=by
 obtain⟨q,z⟩:=h;have e:SameF s p:=⟨q.choose_spec.1,q.choose_spec.2.1,q.choose_spec.2.2.1⟩;have k:=(form_is H).field;have o:=field_ft k;have v:=qeU (by have h:=k;unfold fieldOK at h;rw[Bool.and_eq_true] at h;exact h.1:shapeM s.p s.m s.mod=true);have l:=((qfI _).1 v.prime).2;have t:=o.small.m1;have y:s.frob.toNat % s.m.toNat<=s.m.toNat:=Nat.le_of_lt (Nat.mod_lt _ t);have c:∀(hmo:MoOk p.n.toNat (p.p.toNat^p.m.toNat) p.m C D s.frob)(i:Nat),i<p.n.toNat->(natL C).getD i 0<p.n.toNat:=fun hmo i hi=>by have g:=hmo.rng i (by rw[hmo.pl];exact hi);rw[qfC (by rw[hmo.pl];exact hi)];omega
 have b:∀(hmo:MoOk p.n.toNat (p.p.toNat^p.m.toNat) p.m C D s.frob)(i j:Nat),i<j->j<p.n.toNat->(natL C).getD i 0≠(natL C).getD j 0:=fun hmo i j hij hj=>by have g:=hmo.rng i (by rw[hmo.pl];omega);have A:=hmo.rng j (by rw[hmo.pl];exact hj);have B:=hmo.inj j (by rw[hmo.pl];exact hj) i hij;rw[qfC (by rw[hmo.pl];omega),qfC (by rw[hmo.pl];exact hj)];omega
 have d:∀(hmo:MoOk p.n.toNat (p.p.toNat^p.m.toNat) p.m C D s.frob)(i:Nat),i<p.n.toNat->(natL D).getD i 0<s.p.toNat^s.m.toNat/\(natL D).getD i 0≠0:=fun hmo i hi=>by have g:=hmo.nz i (by rw[hmo.sl];exact hi);rw[qfC (by rw[hmo.sl];exact hi),e.1,e.2.1];exact⟨U0,U0⟩
 refine made_of H q (fun hfl=>QMap hfl p.n.toNat (natR p.gen) (fun i=>(natL C).getD i 0) (fun i=>El.of hfl ((natL D).getD i 0)) (Fr s.p.toNat (s.frob.toNat % s.m.toNat))) (fun hfl=>qMap_lin _ _ _ _ (fr_aut o l y)) (fun hmo hfl r hr=>?_) (fun hmo hfl f hf=>?_) J
 . (have u:ImRow (opsT s.p.toNat s.m.toNat (lOf s.p s.m s.mod)) (itN (frN s.p.toNat s.m.toNat (lOf s.p s.m s.mod)) (s.frob.toNat % s.m.toNat)) (natL C) (natL D) p.n.toNat (natR p.gen) r:=by rw[e.1,e.2.1,e.2.2];exact hr);exact im_q o (c hmo) (b hmo) (fun i hi=>(d hmo i hi).1) (e.grid I).2 u
 . rcases map_law (fr_aut o l y) (fun i hi=>El.of_ne (d hmo i hi).1 (d hmo i hi).2) (c hmo) (b hmo) (K.at_ e hfl) hf with g|g
   . exact .inl g
   . exact .inr (Nat.le_trans U0 g)
end Go.Proofs.YtocbdafcolbfeaaGreat
namespace Go.Proofs.YtocbdafcolbfeaaGreat
open Go.RowKit Pln Go.Proofs.Tryz
def LS1(w:Wo)(cs cp:List Value)(g:Nat)(W:Wo):Prop:=SB w w.heap.size cs W/\W.rangeAt g 0 cp/\zB w W
theorem qfB(cs cp:List Value)(y:cs.length=23)(v:cp.length=23)(P:Prop)(g c:Nat)(w:Wo)(x:w.rangeAt g 0 cp)(u:g<w.heap.size)(t:∀ W:Wo,zB w W->zC 29 #[.agg cs.toArray,.agg cp.toArray] W (ItPost W P)):
 zC 17 #[.agg cs.toArray,zS g 1 c] w (ItPost w P):=by
 have k:=zH (sb_new w cs);have j:=zH t;have n:=zH x;have i:=u;clear t x;go_enter func17,ntmps17;go_upto_region 1 with fail;generalize w.alloc (.cells cs.toArray 40)=p at *;have f:zK (LS1 w cs cp g p.drew):=⟨k.o.grow zV.drew,range_keep_v n.o (k.o.2.1.block g i),k.o.2.1.drew⟩;clear k n;go_upto_region 5 with fail;refine qaS 5 5 (LS1 w cs cp g) [(0,0),(1,1),(1,2),(0,3),(2,4)] default U1 U1 (fun _ _ d _ _ h=>by cases d<;>exact h) f.o ?_;generalize p.drew=r at *;simp only[List.map_cons,List.map_nil,List.getD_cons_zero,List.getD_cons_succ];refine qaT rfl 40 (.tmp 2) rfl w.heap.size 0 rfl cs _ (fun W hW=>hW.1.range) underlying40 rfl (by rw[y];exact stepSize) ?_;go_simp
 iterate 2
  apply qaM rfl
  . intro W
    go_simp
    rfl
  go_simp
 refine qaT rfl 40 (.tmp 17) rfl g 0 rfl cp _ (fun W hW=>hW.2.1) underlying40 rfl (by rw[v];exact stepSize) ?_;go_simp;apply qbE rfl
 . go_simp;exact⟨rfl,rfl⟩
 refine(j.o r f.o.2.2).mono ?_;rintro e s ⟨⟨b,rfl,hd⟩,hb2⟩;have m:=zH<|f.o.2.2.trans (hb2.mono f.o.2.2.size)
 have l:=Nat.lt_of_lt_of_le i f.o.2.2.size;have q:=zH hd;refine⟨_,rfl,⟨f.o.1.grow hb2,range_keep_v f.o.2.1 (hb2.block g l),m.o⟩,?_⟩;go_simp;refine qbH ?_;show wpList _ _ _ _ _ _;go_simp;clear hb2 hd f j;go_wp2;go_ret;exact⟨⟨_,rfl,q.o⟩,m.o⟩
def StXM(w:Wo)(B:Nat)(d:StD)(cs:List Value):Prop:=StC w B d cs/\∃ps ss,StM w B ps ss cs
theorem StM.keep{w w':Wo}{B:Nat}{m n:LI}{cs:List Value}(h:StM w B m n cs)(l:Below B w w'):StM w' B m n cs:=by obtain⟨c,d,cp,b,f,g,i,j,k⟩:=h;exact⟨c,d,cp,b,f,g,i.keep l,j.keep l,k⟩
theorem StM.more{w:Wo}{B B':Nat}{m n:LI}{cs:List Value}(h:StM w B m n cs)(l:B<=B'):StM w B' m n cs:=by obtain⟨c,d,cp,b,f,g,i,j,k⟩:=h;exact⟨c,d,cp,b,f,g,i.more l,j.more l,k⟩
theorem stX_m:StX StXM:=⟨fun h hb=>⟨h.1.keep hb,h.2.choose,h.2.choose_spec.choose,h.2.choose_spec.choose_spec.keep hb⟩,fun h hB=>⟨h.1.more hB,h.2.choose,h.2.choose_spec.choose,h.2.choose_spec.choose_spec.more hB⟩,fun h=>h.1⟩
theorem premises_4(w:Wo):zC 16 #[Y 4] w fun e w'=>e=.returned (Y 1)/\w=w':=by go_enter func16,ntmps16;go_wp2;go_ret;exact⟨rfl,rfl⟩
theorem premises_5(w:Wo):zC 16 #[Y 5] w fun e w'=>e=.returned (Y 1)/\w=w':=by go_enter func16,ntmps16;go_wp2;go_ret;exact⟨rfl,rfl⟩
theorem premises_6(w:Wo):zC 16 #[Y 6] w fun e w'=>e=.returned (Y 1)/\w=w':=by go_enter func16,ntmps16;go_wp2;go_ret;exact⟨rfl,rfl⟩
theorem premises_7(w:Wo):zC 16 #[Y 7] w fun e w'=>e=.returned (Y 1)/\w=w':=by go_enter func16,ntmps16;go_wp2;go_ret;exact⟨rfl,rfl⟩
theorem premises_12(w:Wo):zC 16 #[Y 12] w fun e w'=>e=.returned (Y 1)/\w=w':=by go_enter func16,ntmps16;go_wp2;go_ret;exact⟨rfl,rfl⟩
theorem premises_13(w:Wo):zC 16 #[Y 13] w fun e w'=>e=.returned (Y 1)/\w=w':=by go_enter func16,ntmps16;go_wp2;go_ret;exact⟨rfl,rfl⟩
theorem premises_18(w:Wo):zC 16 #[Y 18] w fun e w'=>e=.returned (Y 1)/\w=w':=by go_enter func16,ntmps16;go_wp2;go_ret;exact⟨rfl,rfl⟩
theorem fo_4(s:StD)(x:s.rule=4)(y:s.ok)(cs:List Value)(l:List StD)(v:Value)(B:Nat)(W:Wo)(q:StXM W W.heap.size s cs)(u:B<=W.heap.size)(n:FromX StXM W B v l)(m:∀p∈l,p.ok/\formZ p=0)(o:l.length=1)(t:formZ s=0):
 zC 17 #[.agg cs.toArray,v] W fun e w'=>∃b,e=.returned (.bool b)/\zB W w'/\(b=true->∃p,l=[p]/\One4 s p):=by
 obtain⟨p,rfl⟩:∃p,l=[p]:=by
  rcases l with _|⟨p,_|⟨r,l⟩⟩
  . simp at o
  . exact⟨p,rfl⟩
  . simp at o
 obtain⟨k,g,rfl,j⟩:=n.form;obtain⟨R,rfl,_,c,_⟩:=j U2;obtain⟨cp,d,f⟩:=n.range (i:=0) (p:=p) rfl
 have h:=qfB cs cp q.1.len f.1.len (One4 s p) R g W (by simpa using d) c fun W' hW'=>
  one_4 s p cs cp W' (q.1.lift hW') ((f.1.more u).lift hW') y t (m p U2).2 x
 exact h.mono fun e w' ⟨⟨b,he,hb⟩,hbl⟩=>⟨b,he,hbl,fun h=>⟨p,rfl,hb h⟩⟩
theorem fo_6(s:StD)(x:s.rule=6)(_:s.ok)(cs:List Value)(l:List StD)(v:Value)(B:Nat)(W:Wo)(q:StXM W W.heap.size s cs)(u:B<=W.heap.size)(n:FromX StXM W B v l)(m:∀p∈l,p.ok/\formZ p=0)(o:l.length=1)(t:formZ s=0):
 zC 17 #[.agg cs.toArray,v] W fun e w'=>∃b,e=.returned (.bool b)/\zB W w'/\(b=true->∃p,l=[p]/\One6 s p):=by
 obtain⟨p,rfl⟩:∃p,l=[p]:=by
  rcases l with _|⟨p,_|⟨r,l⟩⟩
  . simp at o
  . exact⟨p,rfl⟩
  . simp at o
 obtain⟨k,g,rfl,j⟩:=n.form;obtain⟨R,rfl,_,c,_⟩:=j U2;obtain⟨cp,d,f⟩:=n.range (i:=0) (p:=p) rfl
 have h:=qfB cs cp q.1.len f.1.len (One6 s p) R g W (by simpa using d) c fun W' hW'=>
  one_6 s p cs cp W' (q.1.lift hW') ((f.1.more u).lift hW') t (m p U2).2 x
 exact h.mono fun e w' ⟨⟨b,he,hb⟩,hbl⟩=>⟨b,he,hbl,fun h=>⟨p,rfl,hb h⟩⟩
theorem fo_7(s:StD)(x:s.rule=7)(y:s.ok)(cs:List Value)(l:List StD)(v:Value)(B:Nat)(W:Wo)(q:StXM W W.heap.size s cs)(u:B<=W.heap.size)(n:FromX StXM W B v l)(m:∀p∈l,p.ok/\formZ p=0)(o:l.length=1)(t:formZ s=0):
 zC 17 #[.agg cs.toArray,v] W fun e w'=>∃b,e=.returned (.bool b)/\zB W w'/\(b=true->∃p,l=[p]/\One7 s p):=by
 obtain⟨p,rfl⟩:∃p,l=[p]:=by
  rcases l with _|⟨p,_|⟨r,l⟩⟩
  . simp at o
  . exact⟨p,rfl⟩
  . simp at o
 obtain⟨k,g,rfl,j⟩:=n.form;obtain⟨R,rfl,_,c,_⟩:=j U2;obtain⟨cp,d,f⟩:=n.range (i:=0) (p:=p) rfl
 have h:=qfB cs cp q.1.len f.1.len (One7 s p) R g W (by simpa using d) c fun W' hW'=>
  one_7 s p cs cp W' (q.1.lift hW') ((f.1.more u).lift hW') y t (m p U2).2 x
 exact h.mono fun e w' ⟨⟨b,he,hb⟩,hbl⟩=>⟨b,he,hbl,fun h=>⟨p,rfl,hb h⟩⟩
theorem fo_13(s:StD)(y:s.rule=13)(z:s.ok)(cs:List Value)(m:List StD)(v:Value)(B:Nat)(W:Wo)(o:StXM W W.heap.size s cs)(x:B<=W.heap.size)(q:FromX StXM W B v m)(n:∀p∈m,p.ok/\formZ p=0)(t:m.length=1)(u:formZ s=0):
 zC 17 #[.agg cs.toArray,v] W fun e w'=>∃b,e=.returned (.bool b)/\zB W w'/\(b=true->∃p ps ss,m=[p]/\One13 s p ps ss):=by
 obtain⟨p,rfl⟩:∃p,m=[p]:=by
  rcases m with _|⟨p,_|⟨r,m⟩⟩
  . simp at t
  . exact⟨p,rfl⟩
  . simp at t
 obtain⟨ps,ss,f⟩:=o.2;obtain⟨l,j,rfl,k⟩:=q.form;obtain⟨R,rfl,_,c,_⟩:=k U2;obtain⟨cp,d,g⟩:=q.range (i:=0) (p:=p) rfl
 have h:=qfB cs cp o.1.len g.1.len (One13 s p ps ss) R j W (by simpa using d) c fun W' hW'=>
  one_13 s p ps ss cs cp W' (o.1.lift hW') ((g.1.more x).lift hW') z u (n p U2).2 y ((f.keep hW').more hW'.size)
 exact h.mono fun e w' ⟨⟨b,he,hb⟩,hbl⟩=>⟨b,he,hbl,fun h=>⟨p,ps,ss,rfl,hb h⟩⟩
theorem fo_18(s:StD)(z:s.rule=18)(A:s.ok)(y:s.at_.length=1)(cs:List Value)(m:List StD)(v:Value)(B:Nat)(W:Wo)(t:StXM W W.heap.size s cs)(x:B<=W.heap.size)(o:FromX StXM W B v m)(n:∀p∈m,p.ok/\formZ p=0)(q:m.length=1)(u:formZ s=0):
 zC 17 #[.agg cs.toArray,v] W fun e w'=>∃b,e=.returned (.bool b)/\zB W w'/\(b=true->∃p a0,m=[p]/\One18 s p a0):=by
 obtain⟨p,rfl⟩:∃p,m=[p]:=by
  rcases m with _|⟨p,_|⟨r,m⟩⟩
  . simp at q
  . exact⟨p,rfl⟩
  . simp at q
 obtain⟨a0,d⟩:∃a0,s.at_=[a0]:=by
  match h:s.at_,y with
  |[a],_=>exact⟨a,rfl⟩
 obtain⟨l,j,rfl,k⟩:=o.form;obtain⟨R,rfl,_,c,_⟩:=k U2;obtain⟨cp,f,g⟩:=o.range (i:=0) (p:=p) rfl
 have h:=qfB cs cp t.1.len g.1.len (One18 s p a0) R j W (by simpa using f) c fun W' hW'=>
  one_18 s p a0 cs cp W' (t.1.lift hW') ((g.1.more x).lift hW') A u (n p U2).2 z d
 exact h.mono fun e w' ⟨⟨b,he,hb⟩,hbl⟩=>⟨b,he,hbl,fun h=>⟨p,a0,rfl,hb h⟩⟩
def RelCjK(w:Wo)(G:Nat->Nat)(x n:Nat)(v8 v9:Value)(wr:Wo):Prop:=∃k:Nat,1<=k/\k<=n/\v9=Y ((itN G k x:Nat):Int)/\Num wr w.heap.size v8 (eachL G k x)/\zB w wr
def lenOf1:Value->Nat
 |.slice _ n _=>n
 |_=>0
theorem conj_c(x d gb B p m:Nat)(mod:LI)(md l:LN)(w:Wo)(hF:FT p m md l)(hG:GFM w B gb p m mod l (logL l (p ^ m)))(hB:B<=w.heap.size)(ar:mod.length<=1000000)(hx:x<p ^ m)(hd:degB m d=true)(au:1<=d)(aq:d<=m)(ap:itN (itN (frN p m l) (d % m)) (m / d) x=x):
 zC 185 (Cf gb x d) w fun e w'=>(∃(k c:Nat)(A:OA),e=.returned (.tuple #[zL A k c,Y 0])/\1<=k/\k<=m / d/\itN (itN (frN p m l) (d % m)) k x=x/\zI w' A (nz (eachL (itN (frN p m l) (d % m)) k x)))/\zB w w':=by
 have X:=zH (qfG gb B p m d mod l _ w hG hB ar hF.small.m2);rw[hd] at X;have E:zK (∀(W:Wo),zB w W->zC 143 #[zP gb,Y (x:Int),Y 0] W (Quiet (Y (x:Int)) W)):=fun W hW=>by have:=addI_c x gb p m B md l W hF ((hG.keep (hW.mono hB))).gf;rw[inZ_nat hx] at this;exact this
 have I:zK (∀(W:Wo)(y:Nat),zB w W->y<p^m->zC 190 (Cf gb y d) W fun e w'=>e=.returned (Y ((itN (frN p m l) (d % m) y:Nat):Int))/\zB W w'):=fun W y hW hy=>qfS y d gb B p m mod md l W hF (hG.keep (hW.mono hB)) (Nat.le_trans hB hW.size) ar hy aq;have J:=zH<|fun t=>(qeX hF au aq hx t).1
 have hn:m / d<=m:=Nat.div_le_self _ _;have an:=hF.small.m2;have ai:1<=m / d:=(Nat.le_div_iff_mul_le U0).2 U0;have HP:=zH ap;clear hF hG hd ap hx;generalize itN (frN p m l) (d % m)=G at *;generalize p^m=q at *;generalize m / d=n at *;go_enter func185,ntmps185;go_wp2_with fail;go_fit X.o;rintro e w1 ⟨rfl,hb1⟩;have H:=zH hb1;clear hb1 X;go_wp2_with fail;(with_reducible refine(E.o w1 H.o).mono ?_);rintro e D ⟨rfl,k2,rfl⟩;have s:=zH (qaB H.o k2);generalize w1.drewN k2=D at *;obtain⟨i0,hi,R,S,T⟩:=qaF infoInt;have HI:=zH hi;have ad:=zH R;have ae:=zH S;have af:=zH T;clear hi R S T;go_wp2_with fail;have K:zK (Num (D.alloc (.cells #[Y (x:Int)] 3)) w.heap.size (zS D.heap.size 1 1) [x]):=World.ownsRow_lit D #[Y (x:Int)] 1 s.o.size U4 rfl;have v:zK (zB w (D.alloc (.cells #[Y (x:Int)] 3))):=s.o.alloc s.o.size _;generalize D.heap.size=g at *;generalize D.alloc (.cells #[Y (x:Int)] 3)=w3 at *;have aj:x<q:=J.o 0;(with_reducible refine(I.o w3 x v.o aj).mono ?_);rintro e w4 ⟨rfl,hb4⟩;have O:zK (RelCjK w G x n (zS g 1 1) (Y ((G x:Nat):Int)) w4):=⟨1,Nat.le_refl _,ai,rfl,K.o.grow hb4,v.o.trans (hb4.mono v.o.size)⟩;clear hb4 K v s E;go_wp2;go_loopw [8,9] (fun v8 v9 wr=>RelCjK w G x n v8 v9 wr) (fun v8 _ _=>n-lenOf1 v8);case atStart=>exact O.o
 case round =>
  obtain⟨k,ah,hk,rfl,i,hb⟩:=hrel;obtain⟨VA,ck,rfl⟩:=i.slice;have C:=qeW G k x;rw[C];have b:=zH i;have U:=zH hb;clear i hb O;by_cases f:itN G k x=x
  . have aa:=zH f;(have ac:=zH<|b.o.up.ints);rw[f];clear f b;go_wp2_with fail;refine bodyPost_ret (results_tmp2 rfl _ _ _) rfl ?_;exact⟨⟨k,ck,VA,rfl,ah,hk,aa.o,ac.o⟩,U.o⟩
  . have al : k < n := by
     rcases Nat.lt_or_ge k n with h|h
     . exact h
     . (obtain rfl:k=n:=by omega);exact absurd HP.o f
    have ao:(((itN G k x:Nat):Int) != (x:Int))=true:=bne_iff_ne.2 U0;(have ab:zK (eachL G (k+1) x=eachL G k x++[itN G k x]):=by show _=_;unfold eachL;rw[List.range_succ,List.map_append];rfl);have Z:zK (G (itN G k x)=itN G (k+1) x):=rfl;have hq:=J.o k;have ak:=U.o.size;(have N:zK ((wr.alloc (.cells #[Y ((itN G k x:Nat):Int)] 3)).ownsRow w.heap.size 3 1 (zL VA k ck) k ((nz (eachL G k x)).map (Value.int .i64))):=by have:=World.ownsRow.alloc b.o (.cells #[Y ((itN G k x:Nat):Int)] 3);rw[C] at this;exact this);clear f;generalize itN G k x=y at *;go_wp2_with (at_builtin;refine wpList_append_own_at _ rfl (.tmp 30) (.tmp 32) 23 rfl w.heap.size 3 i0 _ 1 8 underlying23 HI.o ad.o ae.o af.o rfl dc (zL VA k ck) k ((nz (eachL G k x)).map (Value.int .i64)) rfl N.o (zA wr.heap.size 0) 1 1 [Y (y:Int)] rfl rfl ?d1 ?d2 ?d3 ?d4 ?d5 ?_);case d1=>exact World.news_of_block (cs:=#[Y (y:Int)]) (t:=3) (fr:=(0,0)) (heap_alloc_new wr _)
    case d2=>intro u hu;simp at hu;subst hu;rfl
    case d3=>unfold maxLen;omega
    case d4=>omega
    case d5=>simp;omega
    intro v' w7 r Q _ ag;(have L:zK (Num w7 w.heap.size v' (eachL G (k+1) x)):=by show Num _ _ _ _;rw[ab.o];refine Num.step ?_;rw[C];exact r);(have z:=zH<|(U.o.alloc U0 _).grown Q so (fun j hj=>(World.ownsRow.lt b.o j (by rw[C];exact hj)).1));clear r Q ag N b U;go_wp2_with fail;(with_reducible refine(I.o w7 y z.o hq).mono ?_);rintro e w8 ⟨rfl,hb8⟩;have M:=zH (L.o.grow hb8);have V:=zH (z.o.trans (hb8.mono z.o.size));clear hb8 L z;obtain⟨VB,cb,rfl⟩:=M.o.slice;have P:=qeW G (k+1) x;go_wp2;go_roundw;case rel=>exact⟨k+1,U0,U0,by rw[<- Z.o],by have:=M.o;rw[P] at this;exact this,V.o⟩
    case measure=>simp[lenOf1];omega
end Go.Proofs.YtocbdafcolbfeaaGreat
namespace Go.Proofs.YtocbdafcolbfeaaGreat
open Go.RowKit Pln Go.Proofs.Tryz
open Al
theorem free_asc{l:LN}{n:Nat}:∀k,k+1<(freeC l n).length->(freeC l n).getD k 0<(freeC l n).getD (k+1) 0:=fun k hk=>by
 have h:(freeC l n).Pairwise (· < ·):=List.Pairwise.filter _ List.pairwise_lt_range
 rw[getD_at U0,getD_at hk]
 exact List.pairwise_iff_getElem.1 h k (k+1) U0 hk U0
theorem trR_grid{q n N:Nat}{rows:LL}(d:0<q)(c:Grid q n N rows):Grid q N n (trR N rows):=by refine⟨trR_len _ _,fun r hr=>?_⟩;obtain⟨j,_,rfl⟩:=List.mem_map.1 hr;refine⟨by rw[List.length_map,c.1],fun x hx=>?_⟩;obtain⟨u,b,rfl⟩:=List.mem_map.1 hx;exact getD_ok (c.2 u b).2 d j
theorem mulMat_grid{q n N k:Nat}{O:Ops}(E:OpsEq q O O)(c:0<q){K rows:LL}(f:∀r∈K,∀x∈r,x<q)(d:Grid q n N rows)(g:K.length=k):Grid q k N (mulMat O K rows N):=by refine⟨by rw[mulMat_len,g],fun r hr=>?_⟩;obtain⟨u,b,rfl⟩:=List.mem_map.1 hr;rw[d.1];exact vecM_mem E (fun j _=>getD_ok (f u b) c j) d c n zn
theorem short_c(p m:Int)(mod:LI)(Am:OA)(cm N:Nat)(gs:List LI)(A:OA)(c:Nat)(zs:LI)(As:OA)(cs:Nat)(w:Wo)(ha:CD.At ⟨p,m,mod,Am,cm,N,gs,A,c⟩ w)(hS:zI w As zs)(a5:zs.length<=9223372036854775807):
 zC 60 #[C8 p m Am mod.length cm N A gs.length c,zL As zs.length cs] w (ConPost w p m mod (freeC (natL zs) N).length (SetK N zs zs.length) (·∈colsM (supG (opsT p.toNat m.toNat (lOf p m mod)) (natR gs) (freeC (freeC (natL zs) N) N) N) (freeC (natL zs) N))):=by
 obtain⟨a1,a2,a3,a4,s,a6,a7⟩:=qbW ha.z;dsimp only at a1 a4 s a6 a7;have aa:=Al.fld_of (field_ft s);have B:0<p.toNat^m.toNat:=by have:=aa.q1;omega
 have bo:=freeC_le (natL zs) N;obtain⟨Q,hQ⟩:∃Q,Q=freeC (freeC (natL zs) N) N:=⟨_,rfl⟩;have bh:Q.length<=N:=by rw[hQ];exact freeC_le _ _
 have gT:Grid (p.toNat^m.toNat) Q.length gs.length (supT (natR gs) Q):=trR_grid B (qfF B a6);have gK:=ker_grid aa gT;have gM:=mulMat_grid (k:=(kerM (opsT p.toNat m.toNat (lOf p m mod)) (supT (natR gs) Q) gs.length).length) (qdA (field_ft s)) B (fun r hr=>(gK.2 r hr).2) a6 rfl;have gS:Grid (p.toNat^m.toNat) (supG (opsT p.toNat m.toNat (lOf p m mod)) (natR gs) Q N).length N (supG (opsT p.toNat m.toNat (lOf p m mod)) (natR gs) Q N):=by unfold supG;rw[natR_len];have:=canon_grid (qdA (field_ft s)) gM;rw[canonM_len];exact this
 have V:(supG (opsT p.toNat m.toNat (lOf p m mod)) (natR gs) Q N).length<=256:=by unfold supG;rw[canonM_len,natR_len];have:=(elGo_piv (O:=opsT p.toNat m.toNat (lOf p m mod)) (mulMat (opsT p.toNat m.toNat (lOf p m mod)) (kerM (opsT p.toNat m.toNat (lOf p m mod)) (supT (natR gs) Q) gs.length) (natR gs) N) N).2;rw[mulMat_len] at this;omega
 have HX:zK (BoxK w (C2 p m Am mod.length cm N A gs.length c) (Cd) ((w.alloc (C4 p m Am mod.length cm N A gs.length c)).alloc (Ca))):=boxK w _ _
 have I:=zH<|fun W f=>
  positions_any p m mod Am cm N gs A c zs As cs W (ha.keep f).mod U0 (ha.keep f).gen U0 ((hS.keep f).more f.size) a5 ha.z
 have ad:=zH<|fun W=>mgen_c p m Am mod.length cm N A gs.length c W
 have ae:zK (Grid (p.toNat^m.toNat) (colsM (supG (opsT p.toNat m.toNat (lOf p m mod)) (natR gs) Q N) (freeC (natL zs) N)).length (freeC (natL zs) N).length (colsM (supG (opsT p.toNat m.toNat (lOf p m mod)) (natR gs) Q N) (freeC (natL zs) N))):=by show Grid _ _ _ _;rw[colsM_len];exact qfF B gS
 have ay:zK ((colsM (supG (opsT p.toNat m.toNat (lOf p m mod)) (natR gs) Q N) (freeC (natL zs) N)).length<=256):=by show _<=_;rw[colsM_len];exact V
 have au:spZ p m mod N gs=0:=by
  have:=ha.z;unfold codeZ at this;rw[if_neg (by rw[s];simp)] at this;by_cases hl:lengthZ (N:Int)≠0
  . rw[if_pos hl] at this;cases this
  . rw[if_neg hl] at this;exact this
 have al:zK (SetK (N:Int) zs zs.length->∀W VA ck,zB w W->zI W VA (nz (freeC (natL zs) N))->zC 128 #[C7 p m Am mod.length cm,Co N A gs.length c,zL VA (freeC (natL zs) N).length ck] W (MatPost W N (supG (opsT p.toNat m.toNat (lOf p m mod)) (natR gs) Q N))):=fun _ W VA ck f hV=>by
  have:=supported_g p m mod Am cm N (natR gs) A c (freeC (natL zs) N) VA ck Q W (ha.keep f).mod U0 (by rw[a7];exact(ha.keep f).gen) hV U0 (by rw[a7];exact au) free_lt free_asc U0 hQ.symm U0
   (qeY s (by rw[natR_len];exact a6) a3 (by rw[natR_len];omega)) (qeY s (by rw[colsM_len,natR_len];exact qfF B a6) U0 (by rw[colsM_len,natR_len];omega))
   (by rw[natR_len];exact qeY s (by rw[gT.1];exact gT) U0 (by rw[gT.1];omega))
   (by rw[natR_len];exact qeY s ⟨rfl,gK.2⟩ U0 (by have:=gK.1;omega))
   (by rw[natR_len];exact qeY s (by rw[gM.1];exact gM) a3 (by rw[gM.1];have:=gK.1;omega))
  rw[natR_len] at this;exact this
 have S:zK (SetK (N:Int) zs zs.length->(zs.length:Int)≠(N:Int)->∀W g c1,zB w W->zR W g (nzs (supG (opsT p.toNat m.toNat (lOf p m mod)) (natR gs) Q N))->zC 126 #[C7 p m Am mod.length cm,Co N g (supG (opsT p.toNat m.toNat (lOf p m mod)) (natR gs) Q N).length c1,zL As zs.length cs] W (NewPostA W p m mod (freeC (natL zs) N).length (canonM (opsT p.toNat m.toNat (lOf p m mod)) (colsM (supG (opsT p.toNat m.toNat (lOf p m mod)) (natR gs) Q N) (freeC (natL zs) N)) (freeC (natL zs) N).length))):=fun C h2 W g c1 f hr=>by
  have bp:=C.len;have be:=ae.o;have bg:=ay.o
  have:=keepA_c p m mod Am cm N (supG (opsT p.toNat m.toNat (lOf p m mod)) (natR gs) Q N) g c1 (natL zs) As cs W (ha.keep f).mod U0 (by rw[qeV];omega) hr (by rw[C.nat];exact(hS.keep f).more f.size)
   (qeY s gS a3 V) (free_pos (by rw[qeV];omega)) (qeY s be U0 bg) (by unfold lengthZ;rw[if_neg (by have:=free_pos (l:=natL zs) (n:=N) (by rw[qeV];omega);omega)])
  rw[qeV] at this;exact this
 have T:zK (SetK (N:Int) zs zs.length->∀W,zB w W->zC 129 (D6 As zs.length cs N) W fun e w'=>(∃VA ck,e=.returned (zL VA (freeC (natL zs) N).length ck)/\IntsUp w' W.heap.size VA (nz (freeC (natL zs) N)))/\zB W w'):=fun C W f=>by have:=rest_c (natL zs) N As cs W (by rw[C.nat];exact(hS.keep f).more f.size) (by rw[qeV];have:=C.len;omega) U0;rw[qeV] at this;exact this
 rw[<- hQ];clear ha hS a4 s a6 a7 gT gK gM gS V au aa hQ bh;generalize supG (opsT p.toNat m.toNat (lOf p m mod)) (natR gs) Q N=x at *;generalize bd:freeC (natL zs) N=fr at *;clear bd;generalize hM:fr.length=M at *;go_enter func60,ntmps60;go_upto_region 1 with fail;generalize (w.alloc (C4 p m Am mod.length cm N A gs.length c)).alloc (Ca)=W0 at *;have K:=zH<|qeS HX.o.k0
 go_wp2_with (refine wpList_load_mid rfl 32 (.tmp 2) rfl w.heap.size 0 rfl (C2 p m Am mod.length cm N A gs.length c) _ K.o underlying32 rfl codeSz ?_);(with_reducible refine(I.o W0 HX.o.below).mono ?_);rintro e i ⟨⟨z,rfl,hz⟩,hb1⟩;have HZ:=zH hz;have q:=zH (HX.o.keep hb1);clear hz hb1 HX K I;clear W0;have t:=zH q.o.k1;by_cases E:z=0;rotate_left
 . have br:=bne_iff_ne.2 E;have a9:=zH E;clear E HZ;have HY:=zH (q.o.set (Cd));go_wp2_with (first|(refine wpList_store_row rfl 32 (.tmp 4) (.tmp 13) rfl i (w.heap.size+1) 32 (C6) (C6) rfl rfl t.o codeSz rfl U3 ?_)|(refine wpList_store_row rfl 32 (.tmp 4) (.tmp 14) rfl i (w.heap.size+1) 32 (C6) (C6) rfl rfl t.o codeSz rfl U3 ?_)|(refine wpList_store_row rfl 32 (.tmp 4) (.tmp 15) rfl i (w.heap.size+1) 32 (C6) (C6) rfl rfl t.o codeSz rfl U3 ?_)|(refine wpList_store_row rfl 32 (.tmp 4) (.tmp 16) rfl i (w.heap.size+1) 32 (C6) (C6) rfl rfl t.o codeSz rfl U3 ?_));refine bodyPost_ret (results_row_one (P:=prog) rfl _ _ (w.heap.size+1) 32 (C6) (0,0) _ _ rfl rfl HY.o.k1 underlying32 rfl codeSz) rfl ?_;exact⟨HY.o.below,.inl ⟨z,a9.o,rfl⟩⟩
 subst E;have u:=zH (HZ.o rfl);clear HZ t;go_upto_region 4 with fail;have ai:zK (∀W,LSt i W->W.rangeAt w.heap.size 0 (C2 p m Am mod.length cm N A gs.length c)):=fun W f=>qeS (q.o.keep f).k0
 have aj:zK (∀W,LSt i W->W.rangeAt w.heap.size 0 (C5 p m Am mod.length cm)):=fun W f j v hv=>ai.o W f j v (by
  match j,hv with
  |0,hv=>exact hv
  |1,hv=>exact hv
  |2,hv=>exact hv
  |j+3,hv=>simp at hv)
 have aw:zK (∀ W,LSt i W->W.cell? (zA w.heap.size 3)=some (Y (N:Int))):=fun W f=>cell_of_row _ _ 3 _ _ _ (q.o.keep f).k0;have a0:zK (LSt i i.drew):=zV.drew;have ba:∀ {W:Wo} (o:Obj),LSt i W->LSt i (W.alloc o):=fun o h=>Below.alloc h (Below.size h) o;have an:zK (∀ W,LSt i W->zB w W):=fun W f=>q.o.below.trans (Below.mono f q.o.below.size);go_cut [7,8] (fun v7 v8 wx=>RelSh i N x v7 v8 wx);case first =>
  refine wp_region_mixx 14 13 12 (LSt i) [(0,0),(0,1),(0,2),(0,4),(0,5),(0,6),(2,3),(2,7),(2,8),(1,9),(1,10),(1,11)] [(3,13)] default _ (Cq) U1 U1 (fun _ _ d _ _ h=>by cases d<;>exact h) rfl rfl ?_ (fun W f=>ba _ f) a0.o ?_
  . intro a w;unfold ptrTo;go_simp
  simp only[List.map_cons,List.map_nil,List.getD_cons_zero,List.getD_cons_succ];apply x_val rfl
  . intro W f;go_simp;rfl
  go_simp;refine x_load_mid rfl 29 (.tmp 17) rfl w.heap.size 0 rfl (C5 p m Am mod.length cm) _ aj.o underlying29 rfl fieldSize ?_;go_simp;refine x_load_mid rfl 32 (.tmp 2) rfl w.heap.size 0 rfl (C2 p m Am mod.length cm N A gs.length c) _ ai.o underlying32 rfl codeSz ?_;go_simp
  iterate 3
   apply x_val rfl
   . intro W f
     have z0:=aw.o W f
     go_simp
     rfl
   go_simp
  apply x_call rfl
  . intro W;go_simp;exact⟨rfl,rfl⟩
  intro W1 bm ap;with_reducible refine(ad.o W1).mono ?_
  rintro e w2 ⟨rfl,hb2⟩;refine⟨_,rfl,Below.trans ap (hb2.mono (Below.size ap)),hb2,?_⟩;go_simp;apply x_call rfl
  . intro W;go_simp;exact⟨rfl,rfl⟩
  intro W3 bn X;with_reducible refine(T.o u.o.1 W3 (an.o _ X)).mono ?_
  rintro e w4 ⟨⟨VA,ck,rfl,hu4⟩,hb4⟩;refine⟨_,rfl,Below.trans X (hb4.mono (Below.size X)),hb4,?_⟩;go_simp;apply x_call rfl
  . intro W;go_simp;exact⟨rfl,rfl⟩
  intro W5 bc Z;with_reducible refine(al.o u.o.1 W5 VA ck (an.o _ Z) (hu4.grow bc).ints).mono ?_
  rintro e w6 ⟨⟨g,c1,rfl,hr6⟩,hb6⟩;refine⟨_,rfl,Below.trans Z (hb6.mono (Below.size Z)),hb6,?_⟩;go_simp
  iterate 3
   apply x_free rfl
   . intro W
     go_simp
     rfl
   go_simp
  refine x_nil ?_;intro W7 b aq bb bf hF ar;have bj:¬(W5.heap.size<=b/\b<w6.heap.size):=fun h=>hF (.inr h)
  have ak:zK (RowsUp (W7.setRow b (Cz N g x.length c1)) W5.heap.size g (nzs x)):=
   hr6.of_blocks (by simpa using aq.size) (fun k hk1 hk2=>by rw[setRow_other _ _ _ _ U0,aq.block k hk2])
  have af:zK ((W7.setRow b (Cz N g x.length c1)).heap[b]?=some (.cells (Cn N g x.length c1).toArray 54 (0,0))):=setRow_same _ _ _ _ _ ar;have av:zK (zB i (W7.setRow b (Cz N g x.length c1))):=qaR bb bf _;unfold ptrTo;refine qcA rfl 54 (.tmp 7) (.tmp 26) rfl b 54 (Cv) (Cz N g x.length c1) rfl rfl ar matSize rfl U3 ?_;go_simp;refine qbH ?_;generalize W7.setRow b (Cz N g x.length c1)=W8 at *;clear hr6 hu4 hb6 hb4 hb2;go_wp2;go_meet;exact⟨b,g,c1,rfl,rfl,af.o,ak.o.rowsAt,av.o⟩
 case rest=>
  obtain⟨b,g,c1,rfl,rfl,ab,ac,D⟩:=hcut;have af:=zH ab;have ak:=zH ac;have bi:=zH D;have U:=zH (q.o.keep D);have J:=zH (aj.o wc D);have ah:=zH<|qeS ab
  have ag:=zH (S.o u.o.1 u.o.2 wc g c1 U.o.below ac);clear ab ac D;go_wp2_with (first|(refine wpList_load_mid rfl 29 (.tmp 32) rfl w.heap.size 0 rfl (C5 p m Am mod.length cm) _ J.o underlying29 rfl fieldSize ?_)|(refine wpList_load_mid rfl 54 (.tmp 7) rfl b 0 rfl (Cn N g x.length c1) _ ah.o underlying54 rfl matSize ?_));go_fit ag.o;rintro e w4 ⟨⟨Ag,c',R,k,rfl,hu4,hr4⟩,hb4⟩;generalize L:canonM (opsT p.toNat m.toNat (lOf p m mod)) (colsM x fr) M=y at *;have H:=zH L;have ao:=zH (U.o.keep hb4);have ax:=zH ao.o.k1;have HY:=zH (ao.o.set (C2 p m Ag mod.length c' M R y.length k));have a8:=zH hu4;have az:=zH hr4;have bq:=U.o.size;clear hu4 hr4 hb4 ag J ah L;go_wp2_with (refine wpList_store_row rfl 32 (.tmp 4) (.tmp 37) rfl w4 (w.heap.size+1) 32 (C6) (Cc p m Ag mod.length c' M R y.length k) rfl rfl ax.o codeSz rfl U3 ?_);refine bodyPost_ret (results_row_one (P:=prog) rfl _ _ (w.heap.size+1) 32 (Cc p m Ag mod.length c' M R y.length k) (0,0) _ _ rfl rfl HY.o.k1 underlying32 rfl codeSz) rfl ?_;refine⟨HY.o.below,.inr ⟨colsM x fr,Ag,R,c',k,by rw[H.o];rfl,?_,?_,ae.o,U0,u.o.1,fun r hr=>hr⟩⟩
  . have C:IntsUp (w4.setRow (w.heap.size+1) (Cc p m Ag mod.length c' M R y.length k)) (wc.heap.size+1+1+1) Ag mod:=a8.o.of_blocks U2 fun k hk _=>setRow_other w4 (w.heap.size+1) k _ U0;exact C.lower U0
  . rw[H.o];have C:=az.o.setRow (show w.heap.size+1<wc.heap.size+1+1+1 by omega) (Cc p m Ag mod.length c' M R y.length k);exact C.lower U0
end Go.Proofs.YtocbdafcolbfeaaGreat
namespace Go.Proofs.YtocbdafcolbfeaaGreat
open Go.RowKit Pln
def One5(s p:StD):Prop:=MadeC s p.p p.m p.mod ((freeC (natL s.at_) p.n.toNat).length) (SetK p.n s.at_ s.at_.length) (·∈colsM (supG (opsT p.p.toNat p.m.toNat (lOf p.p p.m p.mod)) (natR p.gen) (freeC (freeC (natL s.at_) p.n.toNat) p.n.toNat) p.n.toNat) (freeC (natL s.at_) p.n.toNat))/\s.low<=p.low
theorem one_5(s p:StD)(cs cp:List Value)(w:Wo)(k:StC w w.heap.size s cs)(j:StC w w.heap.size p cp)(f:s.ok)(g:formZ s=0)(d:formZ p=0)(i:s.rule=5):
 zC 29 #[.agg cs.toArray,.agg cp.toArray] w (ItPost w (One5 s p)):=by
 have b:((p.n.toNat:Nat):Int)=p.n:=by have:=(form_is d).n1;omega
 refine one_m s p cs cp w 5 k j f g d i _ _ (.inr (.inl ⟨rfl,rfl,fun W B c B1 c1 A a _ b1 b2 b3=>?_⟩));have:=short_c p.p p.m p.mod B c p.n.toNat p.gen B1 c1 s.at_ A a W ⟨b1,b2,by rw[b];exact qbG d⟩ b3 (by have:=f.2.2.2.1;have e:maxLen=9223372036854775807:=rfl;omega);rw[b] at this;exact this.mono fun e w' h=>conC h
end Go.Proofs.YtocbdafcolbfeaaGreat
namespace Go.Proofs.YtocbdafcolbfeaaGreat
open Go.RowKit Pln
open Al
theorem qeH{q:Nat}{O:Ops}(h:Fld q O){r:LN}{j:Nat}(e:r.getD j 0=0):wd h r j=0:=by unfold wd;rw[e];exact El.of_zero
theorem wd_vecM{q:Nat}{O:Ops}(h:Fld q O){n N:Nat}{rows:LL}(g:Grid q n N rows){x:LN}(l:∀ y∈x,y<q)(j:Nat):∀ k,k<=n->wd h (vecM O x rows N k) j=sm k fun i=>wd h x i*wd h (rows.getD i []) j
 |0,_=>qeH h (by unfold vecM;simp[List.getD,List.getElem?_replicate];split<;>rfl)
 | k + 1,hk => by
   have H:=El.fd (h:=h)
   have b:0<q:=by have:=h.q1;omega
   have f:=wd_vecM h g l j k U0
   have d:=vecM_mem h.self (fun i _=>getD_ok l b i) g b k U0
   have c:=g.row (i:=k) U0
   show _=sm k _+wd h x k*wd h (rows.getD k []) j
   unfold vecM
   by_cases e:x.getD k 0=0
   . rw[if_pos e,f,qeH h e,H.zmul,H.zadd]
   . rw[if_neg e,wd_addRow (getD_ok l b k) d.2 c.2 (by rw[d.1,c.1]),f]
     rfl
theorem supT_at{rows:LL}{Q:LN}{t:Nat}(b:t<Q.length):(rows.map fun r=>r.getD (Q.getD t 0) 0)∈supT rows Q:=by refine List.mem_map.2 ⟨t,List.mem_range.2 b,?_⟩;unfold colsM;rw[List.map_map];refine List.map_congr_left fun r _=>?_;simp[List.getD,b]
theorem sup_rows{q:Nat}{O:Ops}(h:Fld q O){n N:Nat}{rows:LL}{Q:LN}(p:Grid q n N rows):∀ u∈supG O rows Q N,InC h N rows (wd h u)/\∀ t,t<Q.length->wd h u (Q.getD t 0)=0:=by
 have H:=El.fd (h:=h);have d:0<q:=by have:=h.q1;omega
 have c:Grid q Q.length n (supT rows Q):=trR_grid d (qfF d p);have k:=ker_grid h c
 have L:LinF q O h fun f=>InC h N rows f/\∀ t,t<Q.length->f (Q.getD t 0)=0 :=
  ⟨⟨(inC_lin N rows).zero,fun _ _=>rfl⟩,fun f g a hf hg=>⟨(inC_lin N rows).step f g a hf.1 hg.1,fun t ht=>by
    show f _+a*g _=0
    rw[hf.2 t ht,hg.2 t ht,H.mulZ,H.addZ]⟩⟩
 unfold supG;rw[p.1];refine L.canon (mulMat_grid h.self d (fun r hr=>(k.2 r hr).2) p rfl) fun r hr=>?_;obtain⟨x,l,rfl⟩:=List.mem_map.1 hr;have b:=(k.2 x l).2;rw[p.1];refine⟨⟨wd h x,fun j _=>by rw[wd_vecM h p b j n zn,p.1]⟩,fun t ht=>?_⟩;rw[wd_vecM h p b _ n zn]
 have m:=(orth_lin n (wd h x)).back c (fun g hg=>by
  have o:=ker_orth (h:=h) c x l g hg
  rw[<- o]
  exact H.sm_congr fun j _=>H.mulC _ _) _ (supT_at ht)
 rw[<- m];refine H.sm_congr fun i hi=>?_;congr 1;unfold wd;congr 1;simp[List.getD,p.1,hi]
theorem law_5{s p:StD}(A:formZ s=0)(z:formZ p=0)(B:LowOk p)(h:One5 s p){v:LN}(y:∀ x∈v,x<s.p.toNat ^ s.m.toNat):WordOk s v:=by
 obtain⟨d,k⟩:=h;have e:SameF s p:=⟨d.choose_spec.1,d.choose_spec.2.1,d.choose_spec.2.2.1⟩;refine made_of A d (fun hfl=>QPos hfl p.n.toNat (freeC (natL s.at_) p.n.toNat).length (natR p.gen) (fun j=>(freeC (natL s.at_) p.n.toNat).getD j 0) (freeC (freeC (natL s.at_) p.n.toNat) p.n.toNat)) (fun hfl=>qPos_lin _ _ _ _ _) (fun hs hfl r hr=>?_) (fun hF hfl f hf=>?_) y
 . unfold colsM at hr;obtain⟨u,q,rfl⟩:=List.mem_map.1 hr;(have g:u∈supG (opsS s) (natR p.gen) (freeC (freeC (natL s.at_) p.n.toNat) p.n.toNat) p.n.toNat:=by have:=e.ops.2;unfold opsS at this ⊢;rw[<- this];exact q);obtain⟨b,o⟩:=sup_rows hfl ⟨rfl,(e.grid z).2⟩ u g;refine⟨wd hfl u,b,o,fun j hj=>?_⟩;unfold wd;congr 1;simp[List.getD,hj]
 . have b := sho_law (l := freeC (freeC (natL s.at_) p.n.toNat) p.n.toNat) free_lt (fun i hi => ?_) (B.at_ e hfl) hf
   . rcases b with b|b
     . exact .inl b
     . right;omega
   . by_cases y : i ∈ freeC (natL s.at_) p.n.toNat
     . right;obtain⟨t,c,e⟩:=List.mem_iff_getElem.1 y;exact⟨t,c,by rw[getD_at c];exact e⟩
     . left;obtain⟨t,c,e⟩:=List.mem_iff_getElem.1 (mem_free.2 ⟨hi,y⟩);exact⟨t,c,by rw[getD_at c];exact e⟩
end Go.Proofs.YtocbdafcolbfeaaGreat
namespace Go.Proofs.YtocbdafcolbfeaaGreat
open Go.RowKit Pln
theorem fo_5(s:StD)(x:s.rule=5)(y:s.ok)(cs:List Value)(l:List StD)(v:Value)(B:Nat)(W:Wo)(q:StXM W W.heap.size s cs)(u:B<=W.heap.size)(n:FromX StXM W B v l)(m:∀p∈l,p.ok/\formZ p=0)(o:l.length=1)(t:formZ s=0):
 zC 17 #[.agg cs.toArray,v] W fun e w'=>∃b,e=.returned (.bool b)/\zB W w'/\(b=true->∃p,l=[p]/\One5 s p):=by
 obtain⟨p,rfl⟩:∃p,l=[p]:=by
  rcases l with _|⟨p,_|⟨r,l⟩⟩
  . simp at o
  . exact⟨p,rfl⟩
  . simp at o
 obtain⟨k,g,rfl,j⟩:=n.form;obtain⟨R,rfl,_,c,_⟩:=j U2;obtain⟨cp,d,f⟩:=n.range (i:=0) (p:=p) rfl
 have h:=qfB cs cp q.1.len f.1.len (One5 s p) R g W (by simpa using d) c fun W' hW'=>
  one_5 s p cs cp W' (q.1.lift hW') ((f.1.more u).lift hW') y t (m p U2).2 x
 exact h.mono fun e w' ⟨⟨b,he,hb⟩,hbl⟩=>⟨b,he,hbl,fun h=>⟨p,rfl,hb h⟩⟩
theorem checkstep_18{X:Wo->Nat->StD->List Value->Prop}(r:StX X)(P:StD->List StD->Prop)(i:Nat)(n:i<=3)(f:List StD)(A:OA)(c k:Nat)(w:Wo)(q:StsX X w w.heap.size A f)(s:∀d∈f,d.ok)(t:f.length<=1000)(g:k<f.length)(o:¬(f[k]'g).rule<0)(l:¬20<=(f[k]'g).rule)(j:(f[k]'g).rule=18)(h:∀W:Wo,zC 16 #[Y (f[k]'g).rule] W fun e w'=>e=.returned (Y (i:Int))/\W=w')(m:∀(cs:List Value)(ps:List StD)(v:Value)(B:Nat)(W:Wo),X W W.heap.size (f[k]'g) cs->B<=W.heap.size->FromX X W B v ps->(∀p∈ps,p.ok/\formZ p=0)->ps.length=i->formZ (f[k]'g)=0->(f[k]'g).at_.length=1->zC 17 #[.agg cs.toArray,v] W fun e w'=>∃b,e=.returned (.bool b)/\zB W w'/\(b=true->P (f[k]'g) ps)):
 zC 7 (D6 A f.length c k) w (AccPost w f k P):=
 checkstep_u r P i n f A c k w q s t g o l U0 h fun cs ps v B W h1 h2 h3 h4 h5 h6 h7=>m cs ps v B W h1 h2 h3 h4 h5 h6 (h7 j)
end Go.Proofs.YtocbdafcolbfeaaGreat
namespace Go.Proofs.YtocbdafcolbfeaaGreat
open Go.RowKit Go.ChangeShapes Go.WideShapes Go.Deep Go.Proofs.Tryz
section
variable {H:Type} {enc:TypeId × Value->H} {w:Wo} {base:Nat} {spare:Nat->Bool} {held:Bool}
theorem slice_cap{j:Nat}{t e:TypeId}{c:Value}{x:DataW H × List MemPlace}(l:prog.underlying t=some (.slice e))(h:DataW.trod enc prog w base spare held j t [c]=some x):
 ∃(A:OA)(n k:Nat),c=zL A n k/\n<=k:=by
 rcases DataW.trod_slice l h with⟨f,_⟩|⟨a,len,b,_,_,_,_,d,_,_,g,i,_⟩
 . exact⟨none,0,0,by simpa using f,U2⟩
 . exact⟨some a,len,b,by simpa using d,U0⟩
theorem step_cellsM{ac:Nat}{cs:List Value}{x:DataW H × List MemPlace}(hl:cs.length=23)(h:DataW.trod enc prog w base spare held ac 40 cs=some x):
 ∃d:StD,StXM w w.heap.size d cs/\d.ok:=by
 match cs,hl with
 | [c0,c1,c2,c3,c4,c5,c6,c7,c8,c9,c10,c11,c12,c13,c14,c15,c16,c17,c18,c19,c20,c21,c22],_ =>
   obtain⟨_,_,_,X⟩:=qaU underlying40 h 0 3 0 1 rfl cellsInt
   obtain⟨_,_,_,o⟩:=qaU underlying40 h 1 32 1 5 rfl cellsCode
   obtain⟨_,_,_,Z⟩:=qaU underlying40 h 2 3 6 1 rfl cellsInt
   obtain⟨_,_,_,h3⟩:=qaU underlying40 h 3 23 7 1 rfl cellsInts
   obtain⟨_,_,_,h4⟩:=qaU underlying40 h 4 23 8 1 rfl cellsInts
   obtain⟨_,_,_,h5⟩:=qaU underlying40 h 5 29 9 3 rfl cellsField
   obtain⟨_,_,_,f⟩:=qaU underlying40 h 6 34 12 5 rfl cellsRun
   obtain⟨_,_,_,h7⟩:=qaU underlying40 h 7 23 17 1 rfl cellsInts
   obtain⟨_,_,_,h8⟩:=qaU underlying40 h 8 23 18 1 rfl cellsInts
   obtain⟨_,_,_,r⟩:=qaU underlying40 h 9 36 19 3 rfl cellsMono
   obtain⟨_,_,_,q⟩:=qaU underlying40 h 10 38 22 1 rfl cellsExcl
   obtain⟨g,rfl⟩:=qbT X
   obtain⟨_,_,_,U⟩:=qaU underlying32 o 0 29 0 3 rfl cellsField
   obtain⟨_,_,_,V⟩:=qaU underlying32 o 1 3 3 1 rfl cellsInt
   obtain⟨_,_,_,W⟩:=qaU underlying32 o 2 30 4 1 rfl cellsRows
   obtain⟨p,m,mod,I,Q,rfl,rfl,rfl,l3,i3⟩:=field_cells U
   obtain⟨n,rfl⟩:=qbT V
   obtain⟨l,E,P,rfl,l5,t,i5⟩:=rows_cell W
   obtain⟨low,rfl⟩:=qbT Z
   obtain⟨k,D,O,rfl,l7,i7⟩:=ints_cell h3
   obtain⟨at_,B,ca,rfl,l8,i8⟩:=ints_cell h4
   obtain⟨N,M,b,C,cb,rfl,rfl,rfl,s,aa⟩:=field_cells h5
   obtain⟨_,_,_,r0⟩:=qaU underlying34 f 0 3 0 1 rfl cellsInt
   obtain⟨_,_,_,r1⟩:=qaU underlying34 f 1 3 1 1 rfl cellsInt
   obtain⟨_,_,_,r2⟩:=qaU underlying34 f 2 3 2 1 rfl cellsInt
   obtain⟨_,_,_,r3⟩:=qaU underlying34 f 3 3 3 1 rfl cellsInt
   obtain⟨_,_,_,r4⟩:=qaU underlying34 f 4 3 4 1 rfl cellsInt
   obtain⟨z0,rfl⟩:=qbT r0
   obtain⟨z1,rfl⟩:=qbT r1
   obtain⟨z2,rfl⟩:=qbT r2
   obtain⟨z3,rfl⟩:=qbT r3
   obtain⟨z4,rfl⟩:=qbT r4
   obtain⟨J,np,cp,rfl,lp⟩:=qeB underlying23 h7
   obtain⟨K,nq,R,rfl,lq⟩:=qeB underlying23 h8
   obtain⟨_,_,_,z⟩:=qaU underlying36 r 0 23 0 1 rfl cellsInts
   obtain⟨_,_,_,m1⟩:=qaU underlying36 r 1 23 1 1 rfl cellsInts
   obtain⟨_,_,_,m2⟩:=qaU underlying36 r 2 3 2 1 rfl cellsInt
   obtain⟨L,ab,S,j,u⟩:=slice_cap underlying23 z
   obtain⟨pl,Ar,y,rfl,lr,ir⟩:=ints_cell z
   obtain⟨A,v,c,rfl,ls,is⟩:=ints_cell m1
   injection j with _ e1 e2
   subst e1
   subst e2
   obtain⟨z5,rfl⟩:=qbT m2
   obtain⟨_,_,_,t0⟩:=qaU underlying38 q 0 30 0 1 rfl cellsRows
   obtain⟨i,At,T,rfl,lt,_,it⟩:=rows_cell t0
   exact⟨⟨g,p,m,mod,n,l,low,k,at_,N,M,b.length,z0,z1,z2,z3,z4,np,nq,pl.length,A.length,z5,i⟩,
    ⟨⟨I,E,D,B,C,J,K,Ar,v,At,Q,P,O,ca,cb,cp,R,y,c,T,rfl,t,i3,i5,i7,i8,it⟩,pl,A,Ar,v,y,c,rfl,rfl,ir,is,u⟩,l3,l5,l7,l8,s,lp,lq,lr,ls,lt⟩
theorem steps_openM{v:Value}{d:DataW H}{p:List MemPlace}(h:DataW.Trod enc prog w base spare held 22 v d p)(Z:v.cells=#[v]):
 ∃(A:OA)(ds:List StD)(k:Nat),v=zL A ds.length k/\ds.length<=maxLen/\StsX StXM w w.heap.size A ds/\∀d∈ds,d.ok:=by
 obtain⟨K,x⟩:=h;rw[Z] at x;rcases open_slice underlying22 x with⟨B,_⟩|⟨a,len,r,m,n,D,U,t,_,V,W,E,_,J⟩
 . exact⟨none,[],0,by simpa using B,U2,fun h=>absurd h U2,U2⟩
 . (have R : len <= m := by rw [E];split <;> omega);rw [cellsStep] at J;by_cases B:len=0
   . subst B;exact⟨some a,[],r,by simpa using t,U2,fun h=>absurd h U2,U2⟩
   . obtain ⟨c0,L,_⟩ := J 0 U0;obtain ⟨_,X,T⟩:=World.cells?_some L;have c:=T 0 U0;rw [List.getElem?_eq_getElem U0] at c;have P:(a.add (0*23)).add 0=a:=rfl;rw [P] at c;have C:=World.block_lt_of_cell? w _ c;have y:=qdQ c;(have s:∀ j,a.add j=(zA a.block (a.off+j)):=fun j=>by rw [y];exact Addr.add_mid _ _ _);(have z:∀ i,i<len->∃ (d:StD)(b:List Value),w.rangeAt a.block (a.off+i*23) b/\StXM w w.heap.size d b/\d.ok:=fun i l=>by obtain ⟨b,g,S⟩:=J i U0;obtain ⟨_,o,q⟩:=World.cells?_some g;obtain ⟨d,hd,I⟩:=step_cellsM o S;refine ⟨d,b,fun j u hu=>?_,hd,I⟩;(have Q:j<23:=by rw [<- o];exact (List.getElem?_eq_some_iff.1 hu).1);have:=q j Q;rw [hu,add_of_add,s] at this;rw [<- this,Nat.add_assoc])
     obtain⟨f,x⟩:∃f:Nat->StD,∀i,i<len->∃(b:List Value),w.rangeAt a.block (a.off+i*23) b/\StXM w w.heap.size (f i) b/\(f i).ok:=
      ⟨fun i=>if h:i<len then Classical.choose (z i h) else⟨0,0,0,[],0,[],0,[],[],0,0,0,0,0,0,0,0,0,0,0,0,0,[]⟩,fun i l=>by simp only[l,dif_pos];exact Classical.choose_spec (z i l)⟩
     refine⟨some a,(List.range len).map f,r,by simpa using t,so,fun _=>⟨a.block,a.off,congrArg some y,C,fun i d hd=>?_⟩,fun d hd=>?_⟩
     . (have l:i<len:=by have:=(List.getElem?_eq_some_iff.1 hd).1;simpa using this);(have:d=f i:=by simpa[l] using hd.symm);rw[this];obtain⟨b,M,N,_⟩:=x i l;exact⟨b,M,N⟩
     . obtain⟨i,l,rfl⟩:=List.mem_map.1 hd;obtain⟨b,_,_,O⟩:=x i (List.mem_range.1 l);exact O
end
end Go.Proofs.YtocbdafcolbfeaaGreat
namespace Go.Proofs.YtocbdafcolbfeaaGreat
open Go.RowKit Pln Go.Proofs.Tryz
theorem itself_1(G:Nat)(w:Wo)(q:zR w (zO G) [[1,1,1]]):
 zC 28 #[.agg (repC 1 3 G).toArray] w (BPost true w):=by have b:=zH (sb_new w (repC 1 3 G));have g:=zH q;clear q;go_enter func28,ntmps28;go_upto_region 1 with fail;generalize w.alloc (.cells (repC 1 3 G).toArray 40)=c at *;have h:c.cell? (zA w.heap.size 0)=some (Y 1):=b.o.cell rfl;have n:c.cell? (zA w.heap.size 6)=some (Y 3):=b.o.cell rfl;have i:c.cell? (zA w.heap.size 1)=some (Y 2):=b.o.cell rfl;have j:c.cell? (zA w.heap.size 2)=some (Y 1):=b.o.cell rfl;have k:c.cell? (zA w.heap.size 3)=some (zL none 0 0):=b.o.cell rfl;have l:c.cell? (zA w.heap.size 4)=some (Y 3):=b.o.cell rfl;have m:c.cell? (zA w.heap.size 5)=some (zS G 1 1):=b.o.cell rfl;have d:=zH (columns_rep G c ((g.o.keep b.o.2.1).more b.o.2.1.size));go_wp2_with fail;refine d.o.mono ?_;rintro e p ⟨rfl,hb⟩;have f:=zH (b.o.2.1.trans (hb.mono b.o.2.1.size));clear hb d b h i j k l m n;go_wp2;go_ret;exact⟨rfl,f.o⟩
def RepPost(w:Wo)(e:Ending)(w':Wo):Prop:=
 ∃G,e=.returned (Cy 2 1 3 G 1 1)/\zR w' (zO G) [[1,1,1]]/\zB w w'
theorem rows_new(w1:Wo):RowsUp ((w1.alloc (.cells #[Y 1,Y 1,Y 1] 3)).alloc (.cells #[zS w1.heap.size 3 3] 23)) w1.heap.size (zO (w1.heap.size+1)) [[1,1,1]]:=fun _=>by
 have c:((w1.alloc (.cells #[Y 1,Y 1,Y 1] 3)).alloc (.cells #[zS w1.heap.size 3 3] 23)).heap[w1.heap.size]?=some (.cells #[Y 1,Y 1,Y 1] 3 (0,0)):=(Below.heap_alloc _ _ _ U2).trans (heap_alloc_new _ _)
 have d:((w1.alloc (.cells #[Y 1,Y 1,Y 1] 3)).alloc (.cells #[zS w1.heap.size 3 3] 23)).heap[w1.heap.size+1]?=some (.cells #[zS w1.heap.size 3 3] 23 (0,0)):=alloc_at U2 _
 refine⟨w1.heap.size+1,0,rfl,U0,U2,fun i hi=>?_⟩
 obtain rfl:i=0:=by simpa using hi
 refine⟨w1.heap.size,0,3,cell_of_row _ _ 0 _ _ _ d,Nat.le_refl _,so,fun j hj=>?_⟩
 rw[cell_of_row _ _ _ _ _ _ c]
 have b:j<3:=hj
 match j,b with
 |0,_=>rfl
 |1,_=>rfl
 |2,_=>rfl
theorem repeated_c(w:Wo):zC 13 #[] w (RepPost w):=by have g:=zH (bx_new w (Cd) 32);go_enter func13,ntmps13;go_upto_region 1 with fail;generalize w.alloc (Ca)=b at *;have d:zB b ((b.alloc (.cells #[Y 1,Y 1,Y 1] 3)).alloc (.cells #[zS b.heap.size 3 3] 23)):=(zV.alloc zn _).alloc U2 _;have c:=zH (g.o.grow d);have f:=zH (rows_new b);have i:=g.o.2.2;clear d g;go_wp2_with (refine wpList_store_row rfl 32 (.tmp 0) (.tmp 4) rfl _ w.heap.size 32 (C6) #[Y 2,Y 1,zL none 0 0,Y 3,zS (b.heap.size+1) 1 1] rfl rfl c.o.1 codeSize rfl U3 ?_);have h:zK (BX w (Cp 2 1 3 (b.heap.size+1) 1 1) 32 (((b.alloc (.cells #[Y 1,Y 1,Y 1] 3)).alloc (.cells #[zS b.heap.size 3 3] 23)).setRow w.heap.size #[Y 2,Y 1,zL none 0 0,Y 3,zS (b.heap.size+1) 1 1])):=⟨setRow_same _ _ _ _ _ c.o.1,qaR c.o.below zn _,by have:=c.o.2.2;simp;omega⟩;refine bodyPost_ret (results_cell_row (P:=prog) rfl _ _ w.heap.size 32 #[Y 2,Y 1,zL none 0 0,Y 3,zS (b.heap.size+1) 1 1] (0,0) _ rfl h.o.1 underlying32 rfl codeSize) rfl ?_;have j:=f.o.of_blocks (w':=((b.alloc (.cells #[Y 1,Y 1,Y 1] 3)).alloc (.cells #[zS b.heap.size 3 3] 23)).setRow w.heap.size #[Y 2,Y 1,zL none 0 0,Y 3,zS (b.heap.size+1) 1 1]) U2 fun k hk _=>setRow_other _ w.heap.size k _ U0;exact⟨b.heap.size+1,rfl,j.rowsAt,h.o.below⟩
section
variable {P:Program} {ops:Array Oper} {rest:List Oper} {op:Oper} {a:Act} {w:Wo} {Q:Exit->Act->Wo->Prop}
theorem qdL(k:Region.wanted op (yielded ops a.tmps)=true)(c:TypeId)(x:Operand)(i:op.op=.load c x)(b o:Nat)(l:a.eval x=.pointer (some (zA b o)))(cs:List Value)(d:TypeDesc)(f:w.rangeAt b o cs)(j:P.underlying c=some d)(hd:d.isRow=true)(g:(P.info? c).map (·.size)=some cs.length)(h:wpList P ops Q rest (a.put op.dst (.agg cs.toArray)) w):wpList P ops Q (op :: rest) a w:=
 wpList_step fun K hK=>by
  rw[if_pos k]
  exact wp_load_mid c x i b o l cs d f j hd g (hK _ _ h)
end
theorem rows_111{G:Nat}{w:Wo}(h:zR w (zO G) [[1,1,1]]):∃R ro cr,w.cell? (zA G 0)=some (zL (some (zA R ro)) 3 cr)/\∀j,j<3->w.cell? (zA R (ro+j))=some (Y 1):=by
 obtain⟨b,o,c,_,i⟩:=h U2;injection c with c;injection c with e1 e2;subst e1;subst e2;obtain⟨l,d,f,g⟩:=i 0 U2;obtain⟨R,ro,rfl,_,k⟩:=g U2;refine⟨R,ro,d,f,fun j hj3=>?_⟩;have:=k j hj3;rw[this];match j,hj3 with
 |0,_=>rfl
 |1,_=>rfl
 |2,_=>rfl
theorem check_1(G b:Nat)(w:Wo)(d:w.rangeAt b 0 (repC 1 3 G))(c:b<w.heap.size)(f:zR w (zO G) [[1,1,1]]):
 zC 7 #[zS b 1 1,Y 0] w (ChkPost true w):=
 checkstep_rep 1 3 premises_1 U0 U0 U0 U0 form_rep1 G b 0 1 0 w U0 U0 d c f true fun W hW=>itself_1 G W ((f.keep hW).more hW.size)
theorem check_15(G b:Nat)(w:Wo)(i:w.rangeAt b 23 (repC 15 4 G))(h:b<w.heap.size)(j:zR w (zO G) [[1,1,1]]):
 zC 7 #[zS b 2 2,Y 1] w (ChkPost false w):=
 checkstep_rep 15 4 premises_15 U0 U0 U0 U0 form_rep15 G b 0 2 1 w U0 U0 i h j false fun W hW=>by
  obtain⟨R,g,c,d,f⟩:=rows_111 ((j.keep hW).more hW.size)
  exact itself_15 G R g c W d f
theorem three_c:ThreeOk:=fun w=>by
 go_enter func5,ntmps5
 go_wp2_with fail
 refine(repeated_c w).mono ?_
 rintro e f ⟨G,rfl,hG,hb⟩
 go_upto_region 2 with(refine qaH rfl 40 (.tmp 1) (.tmp 4) rfl f _ #[Y 1,Y 2,Y 1,zL none 0 0,Y 3,zS G 1 1,Y 3,zL none 0 0,zL none 0 0,Y 0,Y 0,zL none 0 0,Y 0,Y 0,Y 0,Y 0,Y 0,zL none 0 0,zL none 0 0,zL none 0 0,zL none 0 0,Y 0,zL none 0 0] rfl rfl stepSize rfl U3 ?_)
 have b:zB f (f.alloc (C9 1 2 1 3 G 1 1 3)):=zV.alloc zn _
 have A:zK ((f.alloc (C9 1 2 1 3 G 1 1 3)).heap[f.heap.size]?=some (C9 1 2 1 3 G 1 1 3)):=heap_alloc_new _ _
 have u:=zH ((hG.keep b).more b.size)
 have k:=zH (hb.trans (b.mono hb.size))
 have q:f.heap.size<(f.alloc (C9 1 2 1 3 G 1 1 3)).heap.size:=U2
 clear b hG hb
 generalize f.alloc (C9 1 2 1 3 G 1 1 3)=N at *
 generalize f.heap.size=L at *
 clear f
 go_wp2_with fail
 refine(repeated_c N).mono ?_
 rintro e g ⟨G2,rfl,hG2,hb2⟩
 go_upto_region 3 with(refine qaH rfl 40 (.tmp 2) (.tmp 6) rfl g _ #[Y 15,Y 2,Y 1,zL none 0 0,Y 3,zS G2 1 1,Y 4,zL none 0 0,zL none 0 0,Y 0,Y 0,zL none 0 0,Y 0,Y 0,Y 0,Y 0,Y 0,zL none 0 0,zL none 0 0,zL none 0 0,zL none 0 0,Y 0,zL none 0 0] rfl rfl stepSize rfl U3 ?_)
 have b:zB g (g.alloc (C9 15 2 1 3 G2 1 1 4)):=zV.alloc zn _
 have c:=hb2.trans (b.mono hb2.size)
 have B:zK ((g.alloc (C9 15 2 1 3 G2 1 1 4)).heap[g.heap.size]?=some (C9 15 2 1 3 G2 1 1 4)):=heap_alloc_new _ _
 have x:=zH ((hG2.keep b).more b.size)
 have y:=zH ((u.o.keep c).more c.size)
 have l:=zH (k.o.trans (c.mono k.o.size))
 have n:=zH ((c.block L q).trans A.o)
 have J:g.heap.size<(g.alloc (C9 15 2 1 3 G2 1 1 4)).heap.size:=U2
 have K:=Nat.lt_of_lt_of_le q c.size
 clear b c hG2 hb2 u k A q
 generalize g.alloc (C9 15 2 1 3 G2 1 1 4)=r at *
 generalize g.heap.size=O at *
 clear g N
 have d:=zH<|qeS n.o
 go_wp2_with (refine wpList_load_mid rfl 40 (.tmp 1) rfl L 0 rfl (Cs 1 2 1 3 G 1 1 3) _ d.o underlying40 rfl stepSize ?_)
 have b:zB r (r.alloc (C9 1 2 1 3 G 1 1 3)):=zV.alloc zn _
 have s:=zH (check_1 G r.heap.size (r.alloc (C9 1 2 1 3 G 1 1 3)) (qeS (heap_alloc_new _ _)) U2 ((y.o.keep b).more b.size))
 refine s.o.mono ?_
 rintro e i ⟨he,hb4⟩
 have p:e=.returned (Y 0):=he
 subst p
 have c:=b.trans (hb4.mono b.size)
 have C:=zH ((c.block L K).trans n.o)
 have D:=zH ((c.block O J).trans B.o)
 have z:=zH ((x.o.keep c).more c.size)
 have m:=zH (l.o.trans (c.mono l.o.size))
 clear he b hb4 c s d n B x y l J K
 generalize r.heap.size=R at *
 have d:=zH<|qeS C.o
 have H:=zH<|qeS D.o
 go_wp2_with (first
  |(refine qdL rfl 40 (.tmp 1) rfl L 0 rfl (Cs 1 2 1 3 G 1 1 3) _ d.o underlying40 rfl stepSize ?_)
  |(refine qdL rfl 40 (.tmp 2) rfl O 0 rfl (Cs 15 2 1 3 G2 1 1 4) _ H.o underlying40 rfl stepSize ?_))
 have b:zB i (i.alloc (Ce 1 2 1 3 G 1 1 3 15 2 1 3 G2 1 1 4)):=zV.alloc zn _
 have E:zK ((i.alloc (Ce 1 2 1 3 G 1 1 3 15 2 1 3 G2 1 1 4)).heap[i.heap.size]?=some (.cells (repC 1 3 G++repC 15 4 G2).toArray 40 (0,0))):=heap_alloc_new _ _
 have I:zK ((i.alloc (Ce 1 2 1 3 G 1 1 3 15 2 1 3 G2 1 1 4)).rangeAt i.heap.size 23 (repC 15 4 G2)):=fun j v hj=>by
  have h:(repC 1 3 G++repC 15 4 G2)[23+j]?=some v:=by
   rw[List.getElem?_append_right (by show 23<=23+j;omega)]
   show(repC 15 4 G2)[23+j-23]?=some v
   rw[Nat.add_sub_cancel_left]
   exact hj
  have P:=qeS E.o (23+j) v h
  rw[Nat.zero_add] at P
  exact P
 have t:=zH (check_15 G2 i.heap.size (i.alloc (Ce 1 2 1 3 G 1 1 3 15 2 1 3 G2 1 1 4)) I.o U2 ((z.o.keep b).more b.size))
 refine t.o.mono ?_
 rintro e Q ⟨he,hb6⟩
 have p:e=.returned (Y 13):=he
 subst p
 have M:=zH (m.o.trans ((b.trans (hb6.mono b.size)).mono m.o.size))
 clear he b hb6 t I E d H C D z m
 go_wp2
 go_ret
 exact⟨rfl,M.o⟩
end Go.Proofs.YtocbdafcolbfeaaGreat
