/- Parts of the proof. -/
import Derived.Test.YtocbdafcolbfeaaGreatR34
import Derived.Test.YtocbdafcolbfeaaGreatR35
import Derived.Test.YtocbdafcolbfeaaGreatR36
set_option maxRecDepth 100000
set_option maxHeartbeats 8000000
namespace Go.Proofs.YtocbdafcolbfeaaGreat
open Go.RowKit Pln
def One4(s p:StD):Prop:=MadeC s p.p p.m p.mod ((freeC (natL s.at_) p.n.toNat).length) (SetK p.n s.at_ s.at_.length) (·∈colsM (natR p.gen) (freeC (natL s.at_) p.n.toNat))/\s.low<=p.low-(s.at_.length:Int)
theorem one_4(s p:StD)(cs cp:List Value)(w:Wo)(k:StC w w.heap.size s cs)(j:StC w w.heap.size p cp)(f:s.ok)(g:formZ s=0)(d:formZ p=0)(i:s.rule=4):
 zC 29 #[.agg cs.toArray,.agg cp.toArray] w (ItPost w (One4 s p)):=by
 have b:((p.n.toNat:Nat):Int)=p.n:=by have:=(form_is d).n1;omega
 refine one_m s p cs cp w 4 k j f g d i _ _ (.inl ⟨rfl,rfl,fun W B c B1 c1 A a _ b1 b2 b3=>?_⟩);have:=punc_c p.p p.m p.mod B c p.n.toNat p.gen B1 c1 s.at_ A a W ⟨b1,b2,by rw[b];exact qbG d⟩ b3 (by have:=f.2.2.2.1;have e:maxLen=9223372036854775807:=rfl;omega);rw[b] at this;exact this.mono fun e w' h=>conC h
def One7(s p:StD):Prop:=MadeC s p.p p.m p.mod (p.n.toNat+1) (True) (ExtRow (opsT p.p.toNat p.m.toNat (lOf p.p p.m p.mod)) (natR p.gen))/\s.low<=lowX p
theorem one_7(s p:StD)(cs cp:List Value)(w:Wo)(j:StC w w.heap.size s cs)(i:StC w w.heap.size p cp)(k:s.ok)(f:formZ s=0)(d:formZ p=0)(g:s.rule=7):
 zC 29 #[.agg cs.toArray,.agg cp.toArray] w (ItPost w (One7 s p)):=by
 have b:((p.n.toNat:Nat):Int)=p.n:=by have:=(form_is d).n1;omega
 refine one_m s p cs cp w 7 j i k f d g _ _ (.inr (.inr (.inl ⟨rfl,rfl,fun W B c B1 c1 _ b1 b2=>?_⟩)));have:=extend_c p.p p.m p.mod B c p.n.toNat p.gen B1 c1 W ⟨b1,b2,by rw[b];exact qbG d⟩;rw[b] at this;exact this.mono fun e w' h=>conC h
def One18(s p:StD)(a0:Int):Prop:=MadeC s p.p p.m p.mod (p.n.toNat*a0.toNat) (1<=a0) (IntRow (natR p.gen) (p.n.toNat*a0.toNat) a0.toNat)/\s.low<=p.low
theorem one_18(s p:StD)(a0:Int)(cs cp:List Value)(w:Wo)(k:StC w w.heap.size s cs)(j:StC w w.heap.size p cp)(l:s.ok)(g:formZ s=0)(d:formZ p=0)(i:s.rule=18)(f:s.at_=[a0]):
 zC 29 #[.agg cs.toArray,.agg cp.toArray] w (ItPost w (One18 s p a0)):=by
 have b:((p.n.toNat:Nat):Int)=p.n:=by have:=(form_is d).n1;omega
 refine one_m s p cs cp w 18 k j l g d i _ _ (.inr (.inr (.inr (.inr (.inr ⟨rfl,rfl,a0,f,fun W B c B1 c1 _ b1 b2=>?_⟩)))));have:=interleave_c p.p p.m p.mod B c p.n.toNat p.gen B1 c1 a0 W ⟨b1,b2,by rw[b];exact qbG d⟩;rw[b] at this;exact this.mono fun e w' h=>conC h
end Go.Proofs.YtocbdafcolbfeaaGreat
namespace Go.Proofs.YtocbdafcolbfeaaGreat
open Go.RowKit Pln
open Al
theorem law_4{s p:StD}(k:formZ s=0)(_:formZ p=0)(q:LowOk p)(h:One4 s p){i:LN}(o:∀ x∈i,x<s.p.toNat ^ s.m.toNat):WordOk s i:=by
 obtain⟨c,d⟩:=h;have e:SameF s p:=⟨c.choose_spec.1,c.choose_spec.2.1,c.choose_spec.2.2.1⟩;refine made_of k c (fun hfl=>QPos hfl p.n.toNat (freeC (natL s.at_) p.n.toNat).length (natR p.gen) (fun j=>(freeC (natL s.at_) p.n.toNat).getD j 0) []) (fun hfl=>qPos_lin _ _ _ _ _) (fun _ hfl r hr=>?_) (fun hF hfl f hf=>?_) o
 . unfold colsM at hr;obtain⟨u,g,rfl⟩:=List.mem_map.1 hr;refine⟨wd hfl u,InC.mem g,fun t ht=>absurd ht U2,fun j hj=>?_⟩;unfold wd;congr 1;simp[List.getD,hj]
 . have b:=pun_law (l:=natL s.at_) free_lt free_cover (q.at_ e hfl) hf;rw[qeV] at b;rcases b with b|b
   . exact .inl b
   . right;omega
theorem law_6{s p:StD}(u:formZ s=0)(_:formZ p=0)(z:LowOk p)(h:One6 s p){t:LN}(y:∀x∈t,x<s.p.toNat^s.m.toNat):WordOk s t:=by
 obtain⟨⟨j,k,l,o⟩,d,i⟩:=h;have e:SameF s p:=⟨j,k,l⟩;have b:Fld (s.p.toNat^s.m.toNat) (opsS s):=fld_of (field_ft (form_is u).field);obtain⟨q,f⟩:=cw_lin u (inC_lin (h:=b) s.n.toNat (natR p.gen)) (fun r hr=>d r hr b) y;have g:=wf_wt (h:=b) f.2;rw[f.1] at g;have c:=z.at_ e b;rw[<- o] at c;unfold WordOk;rw[<- g];rcases c _ q with c|c
 . exact .inl (qcW c)
 . right;omega
theorem sum_of{q:Nat}{O:Ops}{h:Fld q O}:∀ (u:LN)(s:Nat),s<q->(∀ x∈u,x<q)->El.of h (sumO O s u)=El.of h s+sm u.length (wd h u)
 |[],s,_,_=>((El.fd (h:=h)).zadd _).symm
 |x :: r,s,hs,hu=>by
   have H:=El.fd (h:=h)
   have b:=hu x List.mem_cons_self
   unfold sumO
   rw[sum_of r _ (h.addL _ _ hs b) fun y hy=>hu y (List.mem_cons_of_mem _ hy),El.of_add hs b,List.length_cons,qdH,H.addA]
   rfl
theorem ext_q{q n:Nat}{O:Ops}{h:Fld q O}{A:LL}(m:∀r∈A,Dv.Ok q n r){r:LN}(o:ExtRow O A r):QExt h n A (wd h r):=by
 have H:=El.fd (h:=h);obtain⟨u,d,rfl⟩:=o;obtain⟨f,g⟩:=m u d;have b:∀j,j<n->wd h (extR O u) j=wd h u j:=fun j hj=>qcT U0;have l:=h.q1;have k:=sumO_lt (fun x y hx hy=>h.addL x y hx hy) u 0 U0 g;have i:wd h (extR O u) n=-sm n (wd h u):=by have c:=wd_app_r (h:=h) (u:=u) (v:=[O.neg (sumO O 0 u)]) 0;rw[Nat.add_zero,f] at c;show wd h (u++[O.neg (sumO O 0 u)]) n=_;rw[c];show El.of h (O.neg (sumO O 0 u))=_;rw[El.of_neg k,sum_of u 0 U0 g,El.of_zero,H.addZ,f]
 refine⟨(InC.mem d).congr fun j hj=>(b j hj).symm,?_⟩;show sm n (wd h (extR O u))+wd h (extR O u) n=0;rw[i,H.sm_congr b,H.addN]
theorem law_7{s p:StD}(v:formZ s=0)(t:formZ p=0)(u:LowOk p)(h:One7 s p){q:LN}(y:∀ x∈q,x<s.p.toNat ^ s.m.toNat):WordOk s q:=by
 obtain⟨d,b⟩:=h;have e:SameF s p:=⟨d.choose_spec.1,d.choose_spec.2.1,d.choose_spec.2.2.1⟩;have l:=(form_is t).low1;refine made_of v d (fun hfl=>QExt hfl p.n.toNat (natR p.gen)) (fun hfl=>qExt_lin _ _) (fun _ hfl r hr=>?_) (fun hF hfl f hf=>?_) y
 . (have g:ExtRow (opsS s) (natR p.gen) r:=by have:=e.ops.2;unfold opsS at this ⊢;rw[<- this];exact hr);exact ext_q (e.grid t).2 g
 . unfold lowX at b;split at b
   . rename_i hc;obtain⟨c1,c2,i⟩:=hc;(have o:s.p.toNat^s.m.toNat=2:=by rw[e.1,e.2.1,c2,i];rfl);(have k:p.low.toNat % 2=1:=by have c:((p.low.toNat:Nat):Int)=p.low:=U0;rw[<- c] at c1;have j:Int.tmod ((p.low.toNat:Nat):Int) 2=((p.low.toNat % 2:Nat):Int):=rfl;rw[j] at c1;omega);rcases ext_law2 o k (u.at_ e hfl) hf with c|c
     . exact .inl c
     . right;omega
   . rcases ext_law (u.at_ e hfl) hf with c|c
     . exact .inl c
     . right;omega
theorem ivR_at{u:LN}{n d k:Nat}(r:k<d)(p:u.length=n){i m:Nat}(o:m<d)(q:i<n):∀ t,t<=n->(ivR u (n*d) d k t).getD (i*d+m) 0=if m=k/\i<t then u.getD i 0 else 0
 |0,_=>by
   rw[if_neg U0]
   unfold ivR
   simp only[List.getD,List.getElem?_replicate]
   split<;>rfl
 | t + 1,ht => by
   have hb:t*d+k<n*d:=by
    have c:=Nat.mul_le_mul_right d ht
    rw[Nat.succ_mul] at c
    omega
   unfold ivR
   rw[qeT _ _ _ _ _ (by rw[ivR_len];exact hb),ivR_at r p o q t U0]
   by_cases e:i=t/\m=k
   . obtain⟨rfl,rfl⟩:=e
     rw[if_pos rfl,if_pos ⟨rfl,U0⟩]
   . have f : i * d + m ≠ t * d + k := fun h => by
      rcases Nat.lt_trichotomy i t with c|c|c
      . have b : (i + 1) * d<=t * d:=Nat.mul_le_mul_right d c
        rw[Nat.succ_mul] at b
        omega
      . subst c
        exact e ⟨rfl,U0⟩
      . have b : (t + 1) * d<=i * d:=Nat.mul_le_mul_right d c
        rw[Nat.succ_mul] at b
        omega
     rw[if_neg f]
     by_cases b:m=k/\i<t
     . rw[if_pos b,if_pos ⟨b.1,U0⟩]
     . rw[if_neg b,if_neg]
       rintro⟨g,l⟩
       by_cases j:i=t
       . exact e ⟨j,g⟩
       . exact b ⟨g,U0⟩
theorem int_q{q n d:Nat}{O:Ops}{h:Fld q O}{A:LL}(m:∀r∈A,Dv.Ok q n r){r:LN}(o:IntRow A (n*d) d r):QInt h n d A (wd h r):=by
 obtain⟨u,g,k,f,rfl⟩:=o;obtain⟨c,l⟩:=m u g;intro j b;by_cases e:j=k
 . subst e;refine(InC.mem g).congr fun i hi=>?_;unfold wd;rw[c,ivR_at f c b hi n zn,if_pos ⟨rfl,hi⟩]
 . refine(inC_lin n A).zero.congr fun i hi=>?_;unfold wd;rw[c,ivR_at f c b hi n zn,if_neg fun h=>e h.1,El.of_zero]
theorem law_18{s p:StD}{a0:Int}(i:formZ s=0)(g:formZ p=0)(k:LowOk p)(h:One18 s p a0){d:LN}(j:∀x∈d,x<s.p.toNat^s.m.toNat):WordOk s d:=by
 obtain⟨b,c⟩:=h;have e:SameF s p:=⟨b.choose_spec.1,b.choose_spec.2.1,b.choose_spec.2.2.1⟩;refine made_of i b (fun hfl=>QInt hfl p.n.toNat a0.toNat (natR p.gen)) (fun hfl=>qInt_lin _ _ _) (fun _ hfl r hr=>int_q (e.grid g).2 hr) (fun hF hfl f hf=>?_) j;rcases int_law (k.at_ e hfl) hf with h1|h1
 . exact .inl h1
 . right;omega
theorem BasOk.zero{p m d:Nat}{l:LN}{L:LI}(k:BasOk p m l d L)(h:Fld (p^m) (opsT p m l)){c:Nat->El (p^m) (opsT p m l) h}(n:∀i,i<L.length->sm L.length (fun j=>El.of h (conF p m l d L j i)*c j)=0):∀j,j<L.length->c j=0:=by obtain⟨right,g,rows,b,f⟩:=k;refine(f h).2 c fun i hi=>?_;rw[<- n i hi];refine(El.fd (h:=h)).sm_congr fun j hj=>?_;rw[<- qcJ,((b.2 i hi).2.1 j hj)]
theorem conF_each{p m d n:Nat}{l:LN}{x j i:Nat}(c:j<n)(b:itN (itN (frN p m l) (d % m)) j x<p^m):conF p m l d (nz (eachL (itN (frN p m l) (d % m)) n x)) j i=itN (itN (frN p m l) (d % m)) (i+j) x:=by
 unfold conF;rw[qaC,qfN _ _ _ c,inZ_nat b];induction i with
 |zero=>rw[Nat.zero_add];rfl
 |succ i ih=>rw[show i+1+j=(i+j)+1 by omega];show itN _ _ (itN _ i _)=itN _ _ (itN _ (i+j) _);rw[ih]
theorem trace_zero{p m d:Nat}{md l:LN}(hF:FT p m md l)(s:1<=d)(r:d<=m){x z:Nat}(u:x<p ^ m)(v:z<p ^ m)(A:BasOk p m l d (nz (eachL (itN (frN p m l) (d % m)) (m / d) x)))(B:∀ i,i<m / d->trT p m d l ((opsT p m l).mul (itN (itN (frN p m l) (d % m)) i x) z)=0):z=0:=by
 have h:=fld_of hF;have H:=El.fd (h:=fld_of hF);have o:=Nat.div_pos r U0;have b:(nz (eachL (itN (frN p m l) (d % m)) (m / d) x)).length=m / d:=by rw[qaA,qeW]
 have g:=A.zero (fld_of hF) (c:=fun i=>El.of (fld_of hF) (itN (itN (frN p m l) (d % m)) i z)) (fun i hi=>by
  rw[b] at hi ⊢
  have k:=(qeX hF s r u i).1
  have n:=h.mulL _ _ k v
  have f:El.of (fld_of hF) (trT p m d l ((opsT p m l).mul (itN (itN (frN p m l) (d % m)) i x) z))=0:=by rw[B i hi];exact El.of_zero
  unfold trT at f
  rw[sum_of _ 0 (by have:=h.q1;omega) (fun y hy'=>by
   obtain⟨t,_,rfl⟩:=List.mem_map.1 hy'
   exact(qeX hF s r n t).1),El.of_zero,H.addZ,qeW] at f
  rw[<- f]
  refine H.sm_congr fun j hj=>?_
  show _=El.of _ ((eachL _ _ _).getD j 0)
  rw[qfN _ _ _ hj,conF_each hj (qeX hF s r u j).1,(qeX hF s r n j).2,El.of_mul k v,fr_mul,(qeX hF s r v j).2,(qeX hF s r u i).2,qfR,(qeX hF s r u (i+j)).2,<- Nat.mul_add])
 have q:=g 0 (by rw[b];exact o);exact El.of_inj (h:=fld_of hF) v (by have:=h.q1;omega) (by rw[El.of_zero];exact q)
section
variable {p m d:Nat} {md l md1 l1:LN}
theorem of_trT(hF:FT p m md l)(f:1<=d)(g:d<=m){y:Nat}(c:y<p^m):trT p m d l y<p^m/\El.of (fld_of hF) (trT p m d l y)=sm (m / d) fun i=>Fr p (d*i) (El.of (fld_of hF) y):=by
 have H:=El.fd (h:=fld_of hF);have h:=fld_of hF;have b:∀z∈eachL (itN (frN p m l) (d % m)) (m / d) y,z<p^m:=fun z hz=>by obtain⟨t,_,rfl⟩:=List.mem_map.1 hz;exact(qeX hF f g c t).1
 unfold trT;refine⟨sumO_lt (fun x y hx c=>h.addL x y hx c) _ 0 (by have:=h.q1;omega) b,?_⟩;rw[sum_of _ 0 (by have:=h.q1;omega) b,El.of_zero,H.addZ,qeW];refine H.sm_congr fun j hj=>?_;show El.of _ ((eachL _ _ _).getD j 0)=_;rw[qfN _ _ _ hj,(qeX hF f g c j).2]
theorem tr_fix(hF:FT p m md l)(k:∀d,2<=d->d*d<=p->p % d≠0){n:Nat}(j:d*n=m)(x:El (p^m) (opsT p m l) (fld_of hF)):Fr p d (sm n fun i=>Fr p (d*i) x)=sm n fun i=>Fr p (d*i) x:=by
 have H:=El.fd (h:=fld_of hF);rw[fr_sm (chr_of hF) k];have c:sm n (fun i=>Fr p d (Fr p (d*i) x))=sm n fun i=>Fr p (d*(i+1)) x:=H.sm_congr fun i _=>by rw[qfR,Nat.mul_succ]
 rw[c];have b:=qdH (f:=fun i=>Fr p (d*i) x) n;have g:sm (n+1) (fun i=>Fr p (d*i) x)=sm n (fun i=>Fr p (d*i) x)+Fr p (d*n) x:=rfl;rw[g,j,fermat hF,Nat.mul_zero,qcC,H.addC] at b;exact(H.cancel b).symm
theorem tr_index(hF:FT p m md l)(o:FT p d md1 l1)(z:∀d,2<=d->d*d<=p->p % d≠0){r q:Nat}(j:q<p^m)(u:Emb hF o (El.of (fld_of hF) q))(i:∀x,imN (opsT p m l) p d r x=imN (opsT p m l) p d q x)(s:1<=d)(t:d<=m)(v:d*(m / d)=m){y:Nat}(A:y<p^m):∃k,k<p^d/\imN (opsT p m l) p d r k=trT p m d l y:=by
 obtain⟨f,g⟩:=of_trT hF s t A;obtain⟨a,c⟩:=fixed_im u (y:=El.of (fld_of hF) (trT p m d l y)) (by rw[g];exact tr_fix hF z v _);refine⟨a.n,a.lt,?_⟩;have b:El.of (fld_of hF) (imN (opsT p m l) p d r a.n)=El.of (fld_of hF) (trT p m d l y):=by rw[i,of_imN hF j,<- c];rfl
 exact El.of_inj (h:=fld_of hF) (by rw[i];exact imN_lt hF j d a.n) f b
theorem phi_sm{hF:FT p m md l}{b:FT p d md1 l1}{r:El (p ^ m) (opsT p m l) (fld_of hF)}(f:Nat->El (p ^ d) (opsT p d l1) (fld_of b)):∀ n,phi hF b r (sm n f)=sm n fun j=>phi hF b r (f j)
 |0=>phi_zero
 |n + 1=>by
   show phi hF b r (sm n f+f n)=sm n (fun j=>phi hF b r (f j))+phi hF b r (f n)
   rw[phi_add,phi_sm f n]
def TrRow(p m d:Nat)(l:LN)(q1 r N g:Nat)(u row:LN):Prop:=row.length=N/\∀j,j<N->row.getD j 0<q1/\imN (opsT p m l) p d r (row.getD j 0)=trT p m d l ((opsT p m l).mul g (u.getD j 0))
theorem sub_zero(hF:FT p m md l)(L:FT p d md1 l1)(V:∀d,2<=d->d*d<=p->p % d≠0){r M:Nat}(R:M<p^m)(S:Emb hF L (El.of (fld_of hF) M))(Q:∀x,imN (opsT p m l) p d r x=imN (opsT p m l) p d M x)(O:1<=d)(P:d<=m){N x:Nat}(T:x<p^m)(U:BasOk p m l d (nz (eachL (itN (frN p m l) (d % m)) (m / d) x))){f:Nat->El (p^d) (opsT p d l1) (fld_of L)}{u:LN}(X:∀y∈u,y<p^m)(W:∀i,i<m / d->∃row,TrRow p m d l (p^d) r N (itN (itN (frN p m l) (d % m)) i x) u row/\sm N (fun j=>wd (fld_of L) row j*f j)=0):sm N (fun j=>phi hF L (El.of (fld_of hF) M) (f j)*wd (fld_of hF) u j)=0:=by
 have H:=El.fd (h:=fld_of hF);have I:=El.fd (h:=fld_of L);have h:=fld_of hF;have K:=h.q1;obtain⟨z,o⟩:∃z,z=sm N (fun j=>phi hF L (El.of (fld_of hF) M) (f j)*wd (fld_of hF) u j):=⟨_,rfl⟩;rw[<- o];refine El.n_zero.1 (trace_zero hF O P T z.lt U fun i hi=>?_);obtain⟨row,⟨J,b⟩,A⟩:=W i hi;have k:=(qeX hF O P T i).1;generalize itN (itN (frN p m l) (d % m)) i x=g at *;have c:=fun j=>getD_ok X U0 j;obtain⟨D,E⟩:=of_trT hF O P (h.mulL _ _ k z.lt);refine El.of_inj (h:=fld_of hF) D U0 ?_;rw[E,El.of_zero,El.of_mul k z.lt,show El.of (fld_of hF) z.n=z from El.eq (El.of_n z.lt),o];have q:∀t,t<m / d->Fr p (d*t) (El.of (fld_of hF) g*sm N (fun j=>phi hF L (El.of (fld_of hF) M) (f j)*wd (fld_of hF) u j))=sm N fun j=>phi hF L (El.of (fld_of hF) M) (f j)*Fr p (d*t) (El.of (fld_of hF) g*wd (fld_of hF) u j):=fun t _=>by rw[<- H.sm_mul,fr_sm (chr_of hF) V];refine H.sm_congr fun j _=>?_;rw[fr_mul,fr_mul,fr_mul,fr_fix (phi_fix S (f j))];rw[<- H.mulA,H.mulC (Fr p (d*t) (El.of (fld_of hF) g)),H.mulA]
 rw[H.sm_congr q,H.sm_swap];have s:∀j,j<N->sm (m / d) (fun t=>phi hF L (El.of (fld_of hF) M) (f j)*Fr p (d*t) (El.of (fld_of hF) g*wd (fld_of hF) u j))=phi hF L (El.of (fld_of hF) M) (wd (fld_of L) row j*f j):=fun j hj=>by
  obtain⟨B,C⟩:=b j hj;have v:phi hF L (El.of (fld_of hF) M) (wd (fld_of L) row j)=El.of (fld_of hF) (trT p m d l ((opsT p m l).mul g (u.getD j 0))):=by rw[<- C,Q,of_imN hF R];show im _ _ _ (El.of (fld_of L) (row.getD j 0)).n=_;rw[El.of_n B]
  rw[H.sm_mul,phi_mul S,v,(of_trT hF O P (h.mulL _ _ k (c j))).2,El.of_mul k (c j),H.mulC];rfl
 rw[H.sm_congr s,<- phi_sm,A,phi_zero]
end
theorem sub_word{p B m d:Nat}{md l md1 l1:LN}(H:B=p)(hF:FT p m md l)(t:FT B d md1 l1)(O:∀d,2<=d->d*d<=p->p % d≠0){r:Nat}(P:r<p^m)(E:md1.length=d)(D:∀d∈md1,d<p)(C:d=1->md1=[0])(v:d=1\/evN (opsT p m l) (md1++[1]) r=0)(J:1<=d)(K:d<=m){N low x:Nat}{A:LL}(I:Grid (p^m) A.length N A)(z:canonM (opsT p m l) A N=A)(y:MinW (fld_of hF) N A low)(Q:x<p^m)(M:BasOk p m l d (nz (eachL (itN (frN p m l) (d % m)) (m / d) x)))(f:Nat->El (B^d) (opsT B d l1) (fld_of t))(L:∀u∈kerM (opsT p m l) A N,∀i,i<m / d->∃row,TrRow p m d l (B^d) r N (itN (itN (frN p m l) (d % m)) i x) u row/\sm N (fun j=>wd (fld_of t) row j*f j)=0):wf N f=0\/low<=wf N f:=by
 subst H;obtain⟨o,n,q,g⟩:=emb_of hF t P E D C v;have k:=(ker_grid (fld_of hF) I).2;have b:=dual_in (h:=fld_of hF) I (f:=fun j=>phi hF t (El.of (fld_of hF) o) (f j)) fun u hu=>sub_zero hF t O n q g J K Q M (k u hu).2 (L u hu);rw[z] at b;have e:wf N (fun j=>phi hF t (El.of (fld_of hF) o) (f j))=wf N f:=qfK fun j _=>by
  by_cases c:f j=0
  . (have s:phi hF t (El.of (fld_of hF) o) (f j)=0:=by rw[c];exact phi_zero);rw[if_pos (El.n_zero.2 c),if_pos (El.n_zero.2 s)]
  . rw[if_neg fun e=>c (El.n_zero.1 e),if_neg fun e=>phi_ne q c (El.n_zero.1 e)]
 rcases y _ b with h|h
 . left;rw[<- e];exact qcW h
 . right;rw[<- e];exact h
def SubT(p m:Nat)(l md1:LN)(d:Nat)(di:Int)(q1:Nat)(O1:Ops)(N:Nat)(D T:LL):Prop:=
 ∃r x:Nat,r<p^m/\(d=1\/evN (opsT p m l) (md1++[1]) r=0)/\degB m di=true/\x<p^m/\BasOk p m l d (nz (eachL (itN (frN p m l) (d % m)) (m / d) x))/\
  ∀(h1:Fld q1 O1)(f:Nat->El q1 O1 h1),(∀t∈T,sm N (fun j=>wd h1 t j*f j)=0)->∀u∈D,∀i,i<m / d->∃row,TrRow p m d l q1 r N (itN (itN (frN p m l) (d % m)) i x) u row/\sm N (fun j=>wd h1 row j*f j)=0
def SubQ(p1 m1:Int)(mod1:LI)(p m:Int)(mod:LI)(N:Nat)(A T:LL):Prop:=
 p1=p/\Grid (p1.toNat^m1.toNat) T.length N T/\SubT p.toNat m.toNat (lOf p m mod) (mdOf m1 mod1) m1.toNat m1 (p1.toNat^m1.toNat) (opsT p1.toNat m1.toNat (lOf p1 m1 mod1)) N (kerM (opsT p.toNat m.toNat (lOf p m mod)) A N) T
def One12(s p:StD):Prop:=(∃T,s.n=p.n/\s.gen=nzs (kerM (opsS s) T p.n.toNat)/\SubQ s.p s.m s.mod p.p p.m p.mod p.n.toNat (natR p.gen) T)/\s.low<=p.low
theorem law_12{s p:StD}(fs:formZ s=0)(fp:formZ p=0)(lp:LowOk p)(h:One12 s p){Z:LN}(hm:∀x∈Z,x<s.p.toNat^s.m.toNat):WordOk s Z:=by
 obtain⟨⟨T,y,o,E,K,r,x,S,l,c,U,Q,P⟩,M⟩:=h;have f:=form_is fs;have A:=form_is fp;have J:=field_ft A.field;have d:=field_ft f.field;have D:=qeU (by have h:=A.field;unfold fieldOK at h;rw[Bool.and_eq_true] at h;exact h.1:shapeM p.p p.m p.mod=true);have q:=qeU (by have h:=f.field;unfold fieldOK at h;rw[Bool.and_eq_true] at h;exact h.1:shapeM s.p s.m s.mod=true);have R:=d.small.m1;have B:s.m.toNat<=p.m.toNat:=by unfold degB at c;simp only[Bool.and_eq_true,decide_eq_true_eq,beq_iff_eq] at c;obtain⟨V,W,X⟩:=c;omega
 have b:Fld (s.p.toNat^s.m.toNat) (opsS s):=fld_of d;have H:=El.fd (h:=b)
 have L:LinF (s.p.toNat^s.m.toNat) (opsS s) b fun g=>∀t∈T,sm p.n.toNat (fun j=>wd b t j*g j)=0:=
  ⟨fun t _=>(orth_lin p.n.toNat (wd b t)).zero,fun g k a o hk t ht=>(orth_lin p.n.toNat (wd b t)).step g k a (o t ht) (hk t ht)⟩
 have C:∀r∈natR s.gen,∀t∈T,sm p.n.toNat (fun j=>wd b t j*wd b r j)=0:=fun r h t ht=>by rw[o,natR_nzs] at h;have:=(orth_lin p.n.toNat (wd b r)).back K (fun g o=>by rw[<- ker_orth K r h g o];exact H.sm_congr fun j _=>H.mulC _ _) t ht;rw[<- this];exact H.sm_congr fun j _=>H.mulC _ _
 obtain⟨N,v⟩:=cw_lin fs L C hm;have I:=wf_wt (h:=b) v.2;rw[v.1,y] at I
 have O:=sub_word (by rw[E]:s.p.toNat=p.p.toNat) J d ((qfI _).1 D.prime).2 S (mdOf_len f.field) (by rw[<- E];exact q.lt) (fun h=>by
  have v:s.m=1:=by have:=q.m0;omega
  unfold mdOf
  rw[if_pos v]) l U0 B A.grid (form_canon fp) (lp (fld_of J)) U Q _ (fun u hu i hi=>P b _ N u hu i hi)
 have z:wf p.n.toNat (wd b (cwO s.p.toNat s.m.toNat (mdOf s.m s.mod) s.n.toNat (natR s.gen) Z))=0\/p.low.toNat<=wf p.n.toNat (wd b (cwO s.p.toNat s.m.toNat (mdOf s.m s.mod) s.n.toNat (natR s.gen) Z)):=O;rw[y] at z;rw[I] at z;unfold WordOk;rw[y];rcases z with h|h
 . exact .inl h
 . right;omega
end Go.Proofs.YtocbdafcolbfeaaGreat
namespace Go.Proofs.YtocbdafcolbfeaaGreat
open Go.RowKit Pln
section
open Al
theorem orth_in{q:Nat}{O:Ops}{h:Fld q O}{n:Nat}{d:LL}{f g:Nat->El q O h}(k:InC h n d g)(l:∀t∈d,sm n (fun j=>f j*wd h t j)=0):sm n (fun j=>f j*g j)=0:=by
 have H:=El.fd (h:=h);obtain⟨c,b⟩:=k;have e:∀j,j<n->f j*g j=sm d.length fun i=>c i*(f j*wd h (d.getD i []) j):=fun j hj=>by rw[b j hj,<- H.sm_mul];exact H.sm_congr fun i _=>by rw[<- H.mulA,H.mulC (f j),H.mulA]
 rw[H.sm_congr e,H.sm_swap];refine H.sm_zero fun i hi=>?_;rw[H.sm_mul,l _ (mem_getD hi),H.mulZ]
theorem sum_null{q n:Nat}{O:Ops}{v x u:LL}(A:SumRows O q n v x u)(y:Grid q v.length n v)(h:Fld q O){f:Nat->El q O h}(z:∀t∈u,sm n (fun j=>f j*wd h t j)=0):(∀t∈v,sm n (fun j=>f j*wd h t j)=0)/\∀t∈x,sm n (fun j=>f j*wd h t j)=0:=by have H:=El.fd (h:=h);obtain⟨L,l,s,c,rfl⟩:=A;have b:=canon_grid h.self l;rw[<- canonM_len] at b;have d:=(orth_lin n f).back (grid_app b y) z;have o:=(orth_lin n f).back l fun r hr=>d r (List.mem_append.2 (.inl hr));have g:=fun r hr=>d r (List.mem_append.2 (.inr hr));refine⟨g,fun t ht=>?_⟩;obtain⟨i,m,rfl⟩:=List.mem_iff_getElem.1 ht;have k:=orth_in (c i m h) g;have p:=o _ (mem_getD (show i<L.length by omega));rw[sm_sub,p,H.negz,H.zadd] at k;rwa [show x.getD i []=x[i] by simp[List.getD,m]] at k
end
def NulT(q1:Nat)(O1:Ops)(N:Nat)(TR:Nat->LN->LN->Prop)(cj:LN)(D T:LL)(k:Nat):Prop:=∀(h1:Al.Fld q1 O1)(f:Nat->Al.El q1 O1 h1),(∀t∈T,Al.sm N (fun j=>f j*Al.wd h1 t j)=0)->∀i,i<k->∀u∈D,∃row,TR (cj.getD i 0) u row/\Al.sm N (fun j=>f j*Al.wd h1 row j)=0
theorem nulT_step{m N k:Nat}{n:Ops}{o:Nat->LN->LN->Prop}{p:LN}{D T L l:LL}(h:NulT m n N o p D T k)(t:SumRows n m N T (canonM n L N) l)(s:Grid m T.length N T)(q:Grid m L.length N L)(v:L.length=D.length)(r:∀ i,i<D.length->o (p.getD k 0) (D.getD i []) (L.getD i [])):NulT m n N o p D l (k+1):=fun h1 f h0 i hi u hu=>by
 obtain⟨d,g⟩:=sum_null t s h1 h0
 by_cases e:i<k
 . exact h h1 f d i e u hu
 . obtain rfl : i = k:=by omega
   obtain⟨j,b,rfl⟩:=List.mem_iff_getElem.1 hu
   have c:=r j b
   rw[show D.getD j []=D[j] by simp[List.getD,b]] at c
   exact⟨_,c,(Al.orth_lin N f).back q g _ (Al.mem_getD U0)⟩
def IntsB(w:Wo)(P:Nat->Prop)(A:OA)(zs:LI):Prop:=0<zs.length->∃b o,A=some (zA b o)/\P b/\b<w.heap.size/\∀j,j<zs.length->w.cell? (zA b (o+j))=some (Y (zs.getD j 0))
section
variable {w w':Wo} {P P':Nat->Prop} {A:OA} {zs:LI}
theorem IntsB.ints(h:IntsB w P A zs):zI w A zs:=fun hz=>by
 obtain⟨b,o,e,_,c,d⟩:=h hz
 exact⟨b,o,e,c,d⟩
theorem IntsB.mono(h:IntsB w P A zs)(g:∀k,P k->k<w.heap.size->P' k):IntsB w P' A zs:=fun hz=>by
 obtain⟨b,o,e,f,c,d⟩:=h hz
 exact⟨b,o,e,g b f c,c,d⟩
theorem IntsB.keep(h:IntsB w P A zs)(i:w.heap.size<=w'.heap.size)(g:∀k,P k->k<w.heap.size->w'.heap[k]?=w.heap[k]?):IntsB w' P A zs:=fun hz=>by
 obtain⟨b,o,e,c,d,f⟩:=h hz
 exact⟨b,o,e,c,U0,fun j hj=>(World.cell?_of_block (a:=(zA b (o+j))) (g b c d)).trans (f j hj)⟩
theorem IntsUp.intsB{g:Nat}(h:IntsUp w g A zs):IntsB w (fun k=>g<=k/\k<w.heap.size) A zs:=fun hz=>by
 obtain⟨b,o,e,d,c,f⟩:=h hz
 exact⟨b,o,e,⟨d,c⟩,c,f⟩
theorem IntsB.up{g:Nat}(h:IntsB w P A zs)(i:∀k,P k->g<=k):IntsUp w g A zs:=fun hz=>by
 obtain⟨b,o,e,f,c,d⟩:=h hz
 exact⟨b,o,e,i b f,c,d⟩
end
def TrB(lo B:Nat)(p1 m1:Int)(mod1:LI)(N:Nat)(T:LL)(wr:Wo):Prop:=∃(A' R:OA)(c' k:Nat),wr.heap[B]?=some (C4 p1 m1 A' mod1.length c' N R T.length k)/\IntsB wr (fun k=>lo<=k/\k≠B) A' mod1/\RowsB wr (fun k=>lo<=k/\k≠B) R (nzs T)
theorem TrB.grow{l B:Nat}{m m1:Int}{i:LI}{N:Nat}{T:LL}{w w':Wo}(h:TrB l B m m1 i N T w)(j:zB w w'):TrB l B m m1 i N T w':=by obtain⟨c,R,d,k,b,f,g⟩:=h;exact⟨c,R,d,k,(j.block B (block_lt b)).trans b,f.keep j.size fun k _ hk=>j.block k hk,g.keep j.size fun k _ hk=>j.block k hk⟩
def RelU1(w w7:Wo)(bx:List (List Value × TypeId))(p1 m1:Int)(mod1:LI)(N q1:Nat)(O1:Ops)(TR:Nat->LN->LN->Prop)(cj:LN)(D:LL)(v11 v59:Value)(wr:Wo):Prop:=
 ∃(k:Nat)(T:LL),k<=cj.length/\v59=Y (k:Int)/\v11=Y 0/\BXT w bx wr/\zB w7 wr/\TrB (w.heap.size+3) w7.heap.size p1 m1 mod1 N T wr/\codeZ p1 m1 mod1 N (nzs T)=0/\Grid q1 T.length N T/\NulT q1 O1 N TR cj D T k
def RelU2(w16:Wo)(N q1:Nat)(TR:Nat->LN->LN->Prop)(b:Nat)(D:LL)(v69:Value)(wr:Wo):Prop:=
 ∃(j:Nat)(L:LL)(v:Value),j<=D.length/\v69=Y (j:Int)/\L.length=j/\(∀i,i<j->TR b (D.getD i []) (L.getD i []))/\(∀r∈L,Dv.Ok q1 N r)/\MB w16 N L v wr
def RelU3(w17:Wo)(N g g2 q1:Nat)(PR:Nat->Nat->Prop)(ys:LN)(v81:Value)(wr:Wo):Prop:=
 ∃(t:Nat)(row:LN),t<=N/\v81=Y (t:Int)/\Row wr w17.heap.size g N (nz row)/\Dv.Ok q1 N row/\(∀j,j<t->PR (ys.getD j 0) (row.getD j 0))/\Row wr w17.heap.size g2 N (nz ys)/\zB w17 wr
theorem mod_len{p m:Int}{mod:LI}(d:fieldOK p m mod=true):mod.length<=1000:=by
 have c:=qeU (by have h:=d;unfold fieldOK at h;rw[Bool.and_eq_true] at h;exact h.1:shapeM p m mod=true);by_cases b:m=1
 . rw[c.one b];simp
 . rw[c.len b];have:=c.small.m2;omega
theorem mdOf_len2{p m:Int}{mod:LI}(b:fieldOK p m mod=true):(mdOf m mod).length=m.toNat:=
 mdOf_len (d:=⟨0,p,m,mod,0,[],0,[],[],0,0,0,0,0,0,0,0,0,0,0,0,0,[]⟩) b
theorem itN_add(G:Nat->Nat)(a:Nat):∀ b x,itN G (a+b) x=itN G b (itN G a x)
 |0,_=>rfl
 |b + 1,x=>by
   show G (itN G (a+b) x)=G (itN G b (itN G a x))
   rw[itN_add G a b x]
theorem itN_mod{G:Nat->Nat}{x k:Nat}(c:itN G k x=x):∀i,itN G (i % k) x=itN G i x:=by
 have b:∀t,itN G (k*t) x=x:=fun t=>by
  induction t with
  |zero=>rfl
  |succ t ih=>rw[Nat.mul_succ,itN_add,ih,c]
 intro i;have:=itN_add G (k*(i / k)) (i % k) x;rw[b,Nat.div_add_mod] at this;exact this.symm
theorem subT_of{p m d:Nat}{l q:LN}{z:Int}{v r x n N:Nat}{y:Ops}{D T:LL}(I:r<p^m)(k:d=1\/evN (opsT p m l) (q++[1]) r=0)(o:degB m z=true)(J:x<p^m)(C:BasOk p m l d (nz (eachL (itN (frN p m l) (d % m)) (m / d) x)))(E:1<=n)(s:itN (itN (frN p m l) (d % m)) n x=x)(B:NulT v y N (TrRow p m d l v r N) (eachL (itN (frN p m l) (d % m)) n x) D T n):SubT p m l q d z v y N D T:=by refine⟨r,x,I,k,o,J,C,fun h1 f h0 u hu i _=>?_⟩;have H:=Al.El.fd (h:=h1);have b:i % n<n:=Nat.mod_lt _ U0;obtain⟨row,c,g⟩:=B h1 f (fun t ht=>by rw[<- h0 t ht];exact H.sm_congr fun j _=>H.mulC _ _) (i % n) b u hu;rw[qfN _ _ _ b,itN_mod s] at c;exact⟨row,c,by rw[<- g];exact H.sm_congr fun j _=>H.mulC _ _⟩
end Go.Proofs.YtocbdafcolbfeaaGreat
