/- Parts of the proof. -/
import Derived.Test.YtndipkplnkfoeaaGreatR25
set_option maxRecDepth 100000
set_option maxHeartbeats 8000000
namespace Go.Proofs.YtndipkplnkfoeaaGreat
open Go.RowKit Pln
open Al
theorem combO_eq{q n:Nat}{O l:Ops}(E:OpsEq q O l){rows:List (List Nat)}(k:∀ r∈rows,Dv.Ok q n r):∀ (msg out:List Nat),(∀ x∈msg,x<q)->Dv.Ok q n out->Dv.combO l out msg rows=Dv.combO O out msg rows:=by
 induction rows with
 |nil=>intro msg out _ _;cases msg<;>rfl
 |cons r rs ih=>
  intro msg out c d;cases msg with
  |nil=>rfl
  |cons x xs=>
   unfold Dv.combO;obtain⟨i,j⟩:=k r List.mem_cons_self;have h:=c x List.mem_cons_self;obtain⟨f,g⟩:=qdB E h d.2 j;by_cases b:x=0
   . rw[if_pos b,if_pos b];exact ih (fun y hy=>k y (List.mem_cons_of_mem _ hy)) xs out (fun y hy=>c y (List.mem_cons_of_mem _ hy)) d
   . rw[if_neg b,if_neg b,<- f];exact ih (fun y hy=>k y (List.mem_cons_of_mem _ hy)) xs _ (fun y hy=>c y (List.mem_cons_of_mem _ hy)) ⟨by unfold Pln.addRow;rw[List.length_zipWith,d.1,i,Nat.min_self],g⟩
theorem cw_lin{s:StD}(u:formZ s=0){hfl:Fld (s.p.toNat^s.m.toNat) (opsS s)}{Q:(Nat->El (s.p.toNat^s.m.toNat) (opsS s) hfl)->Prop}(L:LinF (s.p.toNat^s.m.toNat) (opsS s) hfl Q)(v:∀r∈natR s.gen,Q (wd hfl r)){q:List Nat}(t:∀x∈q,x<s.p.toNat^s.m.toNat):
 Q (wd hfl (cwO s.p.toNat s.m.toNat (mdOf s.m s.mod) s.n.toNat (natR s.gen) q))/\Dv.Ok (s.p.toNat^s.m.toNat) s.n.toNat (cwO s.p.toNat s.m.toNat (mdOf s.m s.mod) s.n.toNat (natR s.gen) q):=by
 have f:=form_is u;have c:=field_ft f.field;have l:=(fld_of c).q1;have g:(mdOf s.m s.mod).length=s.m.toNat:=by
  have o:=shape_is (by have h:=f.field;unfold fieldOK at h;rw[Bool.and_eq_true] at h;exact h.1:shapeM s.p s.m s.mod=true);by_cases b:s.m=1
  . rw[b];simp[mdOf]
  . unfold mdOf;rw[if_neg b,List.length_map,o.len b]
 have k:Dv.Ok (s.p.toNat^s.m.toNat) s.n.toNat (List.replicate s.n.toNat 0):=⟨U2,fun x hx=>by rw[(List.mem_replicate.1 hx).2];omega⟩;have d:∀r∈natR s.gen,Dv.Ok (s.p.toNat^s.m.toNat) s.n.toNat r:=fun r h=>f.grid.2 r h;have i:OpsEq (s.p.toNat^s.m.toNat) (opsS s) (refOps s.p.toNat s.m.toNat (mdOf s.m s.mod)):=ops_eq c g;have e:=combO_eq i d q _ t k;unfold cwO;rw[e];refine L.comb (fun r h=>⟨d r h,v r h⟩) q _ t k ?_;rw[show wd hfl (List.replicate s.n.toNat 0)=fun _=>0 from funext fun j=>qeH _ _];exact L.zero
theorem form_canon{d:StD}(f:formZ d=0):canonM (opsS d) (natR d.gen) d.n.toNat=natR d.gen:=by
 obtain⟨_,_,b⟩:=codeZ_n (qbG f);unfold spZ at b;rw[if_neg (by rw[form_err f];simp)] at b;split at b
 . rename_i h;have c:natR (nzs (canZ d.p d.m d.mod d.n d.gen))=canZ d.p d.m d.mod d.n d.gen:=natR_nzs _;rw[h] at c;exact c.symm
 . cases b
section
variable {q:Nat} {O:Ops} {h:Fld q O}
theorem ev_sm(x:El q O h):∀ l:List (El q O h),ev l x=sm l.length fun j=>l.getD j 0*pwr x j
 |[]=>rfl
 |a :: l=>by
   have H:=El.fd (h:=h)
   show a+x*ev l x=_
   rw[ev_sm x l,List.length_cons,qdH]
   show a+x*_=a*1+sm l.length fun j=>l.getD j 0*(pwr x j*x)
   rw[H.mulC a 1,H.mulU,<- H.sm_mul]
   congr 1
   exact H.sm_congr fun j _=>by rw[<- H.mulA,<- H.mulA,H.mulC x];rw[H.mulA,H.mulA,H.mulC x]
theorem of_pwN{r:Nat}(b:r<q):∀ k,El.of h (pwN O r k)=pwr (El.of h r) k
 |0=>El.of_one
 |k + 1=>by
   show El.of h (O.mul (pwN O r k) r)=pwr (El.of h r) k*El.of h r
   rw[El.of_mul (pwN_lt h.mulL h.q1 b k) b,of_pwN b k]
theorem evN_lt(h:Fld q O){v:List Nat}(c:∀a∈v,a<q){x:Nat}(d:x<q):evN O v x<q:=by
 induction v with
 |nil=>have:=h.q1;show 0<q;omega
 |cons a r ih=>exact h.addL _ _ (h.mulL _ _ (ih fun b hb=>c b (List.mem_cons_of_mem _ hb)) d) (c a List.mem_cons_self)
theorem of_evN{x:Nat}(g:x<q):∀ v:List Nat,(∀ a∈v,a<q)->El.of h (evN O v x)=ev (v.map (El.of h)) (El.of h x)
 |[],_=>El.of_zero
 |a :: r,hv=>by
   have H:=El.fd (h:=h)
   have d:∀b∈r,b<q:=fun b hb=>hv b (List.mem_cons_of_mem _ hb)
   have f:=hv a List.mem_cons_self
   have c:=evN_lt h d g
   show El.of h (O.add (O.mul (evN O r x) x) a)=El.of h a+El.of h x*ev (r.map (El.of h)) (El.of h x)
   rw[El.of_add (h.mulL _ _ c g) f,El.of_mul c g,of_evN g r d,H.addC,H.mulC (ev _ _)]
theorem of_dotO:∀ (s:Nat) (u v:List Nat),s<q->(∀ x∈u,x<q)->(∀ x∈v,x<q)->u.length=v.length->El.of h (Dv.dotO O s u v)=El.of h s+sm u.length (fun j=>El.of h (u.getD j 0)*El.of h (v.getD j 0))
 |s,[],v,_,_,_,hl=>by
   have H:=El.fd (h:=h)
   have:v=[]:=List.length_eq_zero_iff.1 hl.symm
   subst this
   show El.of h s=El.of h s+0
   rw[H.zadd]
 |s,x :: u,[],_,_,_,hl=>by simp at hl
 |s,x :: u,y :: v,hs,hu,hv,hl=>by
   have H:=El.fd (h:=h)
   have b:=hu x List.mem_cons_self
   have c:=hv y List.mem_cons_self
   show El.of h (Dv.dotO O (O.add s (O.mul x y)) u v)=_
   rw[of_dotO _ u v (h.addL _ _ hs (h.mulL _ _ b c)) (fun z hz=>hu z (List.mem_cons_of_mem _ hz)) (fun z hz=>hv z (List.mem_cons_of_mem _ hz)) (by simpa using hl),El.of_add hs (h.mulL _ _ b c),El.of_mul b c,List.length_cons,qdH,H.addA]
   rfl
end
section
variable {p m m1:Nat} {md l md1 l1:List Nat}
theorem of_imN(hF:FT p m md l){r:Nat}(f:r<p^m)(m1 x:Nat):El.of (fld_of hF) (imN (opsT p m l) p m1 r x)=im hF m1 (El.of (fld_of hF) r) x:=by
 have H:=El.fd (h:=fld_of hF);have b:=(fld_of hF).q1;have c:0<p:=by have:=hF.small.p1;omega
 have d:p<=p^m:=Nat.le_self_pow (by have:=hF.small.m1;omega) p;unfold imN
 rw[of_dotO 0 _ _ U0 (fun y hy=>by have:=qdU c m1 x y hy;omega) (fun y hy=>by
  obtain⟨k,_,rfl⟩:=List.mem_map.1 hy
  exact pwN_lt (fld_of hF).mulL b f k) (by rw[qaK,qcU]),El.of_zero,H.addZ,qaK]
 unfold im Es;refine H.sm_congr fun j hj=>?_;rw[pwL_at _ _ _ _ hj,of_pwN f,(chr_of hF).of];rw[getD_at (by rw[qaK];exact hj)];exact qdU c m1 x _ (List.getElem_mem _)
theorem log_of(hF:FT p m md l){x:Nat}(C:x<p^m)(B:x≠0):∃G:El (p^m) (opsT p m l) (fld_of hF),pwr G (p^m-1)=1/\(∀i j,i<p^m-1->j<p^m-1->pwr G i=pwr G j->i=j)/\El.of (fld_of hF) x=pwr G ((logL l (p^m)).getD x 0)/\∀i,i<p^m-1->El.of (fld_of hF) (l.getD i 0)=pwr G i:=by
 have H:=El.fd (h:=fld_of hF);have z:=(fld_of hF).q1;have d:=qaV (p:=p) (m:=m) (by have:=hF.small.p1;omega) hF.small.m1 md;obtain⟨g,A,q,u,v⟩:=hF.tab.get;have b:∀k,El.of (fld_of hF) (pw (mulM p m md) g k)=pwr (El.of (fld_of hF) g) k:=by
  intro k;induction k with
  |zero=>exact El.of_one
  |succ k ih=>have r:=pw_lt d g k;show El.of (fld_of hF) (mulM p m md (pw (mulM p m md) g k) g)=_;rw[<- hF.tab.mul_eq d r q];show El.of (fld_of hF) ((opsT p m l).mul (pw (mulM p m md) g k) g)=_;rw[El.of_mul r q,ih];rfl
 have c:∀i,i<p^m-1->El.of (fld_of hF) (l.getD i 0)=pwr (El.of (fld_of hF) g) i:=fun i hi=>by rw[v i hi,b]
 obtain⟨s,t⟩:=hF.tab.log d B C;refine⟨El.of (fld_of hF) g,by rw[<- b,u,El.of_one],fun i j hi hj e=>?_,?_,c⟩
 . rw[<- c i hi,<- c j hj] at e;have y:=hF.tab.len;(have f:l.getD i 0=l[i]'U0:=by simp[List.getD,show i<l.length by omega]);(have n:l.getD j 0=l[j]'U0:=by simp[List.getD,show j<l.length by omega]);have o:=El.of_inj (by rw[f];exact hF.tab.lt _ (List.getElem_mem _)) (by rw[n];exact hF.tab.lt _ (List.getElem_mem _)) e;rw[f,n] at o;exact(List.getElem_inj hF.tab.nd).1 o
 . rw[<- c _ s,t]
theorem of_powT(hF:FT p m md l){x:Nat}(k:x<p^m)(j:x≠0)(n:Nat):El.of (fld_of hF) (powT l (logL l (p^m)) (p^m) x n)=pwr (El.of (fld_of hF) x) n:=by
 have H:=El.fd (h:=fld_of hF);have i:=(fld_of hF).q1;obtain⟨G,d,_,b,g⟩:=log_of hF k j;unfold powT;by_cases f:n=0
 . subst f;rw[if_pos rfl];exact El.of_one
 . rw[if_neg f,if_neg j,b,g _ (Nat.mod_lt _ U0),<- H.pwr_mul,H.pwr_mod d,H.pwr_mul,H.pwr_mul,<- b];(have c:pwr (El.of (fld_of hF) x) (p^m-1)=1:=by rw[b,<- H.pwr_mul,Nat.mul_comm,H.pwr_mul,d,H.pwr_one]);exact H.pwr_mod c n
end
end Go.Proofs.YtndipkplnkfoeaaGreat
namespace Go.Proofs.YtndipkplnkfoeaaGreat
open Pln
namespace Al
def bin:Nat->Nat->Nat
 |_,0=>1
 |0,_+1=>0
 |n+1,k+1=>bin n k+bin n (k+1)
theorem bin_zero:∀n,bin n 0=1
 |0=>rfl
 |_+1=>rfl
theorem bin_gt:∀ n k,n<k->bin n k=0
 |_,0,h=>by omega
 |0,k+1,_=>rfl
 |n + 1,k + 1,h=>by
   show bin n k+bin n (k+1)=0
   rw[bin_gt n k U0,bin_gt n (k+1) U0]
theorem bin_self:∀ n,bin n n=1
 |0=>rfl
 |n + 1=>by
   show bin n n+bin n (n+1)=1
   rw[bin_self n,bin_gt n (n+1) U0]
theorem bin_abs:∀ n k,(k+1)*bin (n+1) (k+1)=(n+1)*bin n k
 |0,0=>rfl
 |0,k + 1=>by
   show(k+2)*(bin 0 (k+1)+bin 0 (k+2))=(0+1)*bin 0 (k+1)
   show(k+2)*(0+0)=(0+1)*0
   omega
 |n + 1,0=>by
   have h1:=bin_abs n 0
   rw[bin_zero] at h1
   show(0+1)*(bin (n+1) 0+bin (n+1) (0+1))=(n+1+1)*bin (n+1) 0
   rw[bin_zero]
   generalize bin (n+1) (0+1)=X at *
   omega
 |n + 1,k + 1=>by
   have h1:=bin_abs n (k+1)
   have b:=bin_abs n k
   show(k+1+1)*(bin (n+1) (k+1)+bin (n+1) (k+1+1))=(n+1+1)*bin (n+1) (k+1)
   have c:bin (n+1) (k+1)=bin n k+bin n (k+1):=rfl
   rw[Nat.mul_add,h1,Nat.add_mul (k+1) 1,b,Nat.add_mul (n+1) 1,Nat.one_mul]
   generalize bin (n+1) (k+1)=X at *
   rw[c,Nat.mul_add]
   omega
theorem prime_dvd{p:Nat}(r:∀ d,2<=d->d*d<=p->p % d≠0){i:Nat}(s:0<i)(t:i<p):p ∣ bin p i:=by
 obtain⟨n,rfl⟩:∃n,p=n+1:=⟨p-1,U0⟩;obtain⟨k,rfl⟩:∃k,i=k+1:=⟨i-1,U0⟩;have l:=bin_abs n k;have m:Nat.Coprime (n+1) (k+1):=by
  show Nat.gcd (n+1) (k+1)=1;have b:=Nat.gcd_dvd_left (n+1) (k+1);have h:=Nat.gcd_dvd_right (n+1) (k+1);generalize Nat.gcd (n+1) (k+1)=g at *;have q:g<=k+1:=Nat.le_of_dvd U0 h;have o:0<g:=Nat.pos_of_dvd_of_pos b U0;obtain⟨e,c⟩:=b;refine Classical.byContradiction fun hne=>?_;have f:2<=e:=by
   rcases e with _|_|e
   . omega
   . omega
   . omega
  by_cases j:g<=e
  . exact r g U0 (by rw[c];exact Nat.mul_le_mul_left _ j) (by rw[c];exact Nat.mul_mod_right _ _)
  . exact r e f (by rw[c];exact Nat.mul_le_mul_right _ U0) (by rw[c,Nat.mul_comm];exact Nat.mul_mod_right _ _)
 refine m.dvd_of_dvd_mul_left ?_;rw[l];exact Nat.dvd_mul_right _ _
section
variable {q:Nat} {O:Ops} {h:Fld q O}
theorem cst_one:cst h 1=1:=(El.fd (h:=h)).addZ 1
theorem pwr_binom(x:El q O h):∀ n,pwr (x+1) n=sm (n+1) fun i=>cst h (bin n i)*pwr x i
 |0=>by
   have H:=El.fd (h:=h)
   show 1=0+cst h 1*1
   rw[cst_one,H.addZ,H.umul]
 | n + 1 => by
   have H:=El.fd (h:=h)
   show pwr (x+1) n*(x+1)=_
   rw[pwr_binom x n,H.dist,H.umul,qdH (n+1)]
   have b:sm (n+1) (fun i=>cst h (bin (n+1) (i+1))*pwr x (i+1))=sm (n+1) (fun i=>cst h (bin n (i+1))*pwr x (i+1))+x*sm (n+1) fun i=>cst h (bin n i)*pwr x i:=by
    rw[<- H.sm_lin]
    refine H.sm_congr fun i _=>?_
    show cst h (bin n i+bin n (i+1))*(pwr x i*x)=cst h (bin n (i+1))*(pwr x i*x)+x*(cst h (bin n i)*pwr x i)
    rw[qdO,H.rdist,H.addC,H.mulC x,H.mulA]
   have c:sm (n+1) (fun i=>cst h (bin n i)*pwr x i)=cst h (bin n 0)*pwr x 0+sm (n+1) fun i=>cst h (bin n (i+1))*pwr x (i+1):=by
    rw[<- qdH (n+1) (f:=fun i=>cst h (bin n i)*pwr x i)]
    show _=sm (n+1) (fun i=>cst h (bin n i)*pwr x i)+cst h (bin n (n+1))*pwr x (n+1)
    rw[bin_gt n (n+1) U0]
    show _=_+0*_
    rw[H.zmul,H.zadd]
   have d:bin (n+1) 0=bin n 0:=by rw[bin_zero,bin_zero]
   rw[b,<- H.addA,d,<- c,H.addC,H.mulC]
theorem pwr_zero{n:Nat}(b:0<n):pwr (0:El q O h) n=0:=by obtain⟨k,rfl⟩:∃k,n=k+1:=⟨n-1,U0⟩;exact(El.fd (h:=h)).mulZ _
theorem pwr_add_p{p:Nat}(C:Chr q O h p)(l:∀d,2<=d->d*d<=p->p % d≠0)(x y:El q O h):pwr (x+y) p=pwr x p+pwr y p:=by
 have H:=El.fd (h:=h);have g:=C.p1;have f:∀z:El q O h,pwr (z+1) p=pwr z p+1:=fun z=>by
  rw[pwr_binom z p];obtain⟨k,rfl⟩:∃k,p=k+1:=⟨p-1,U0⟩;show sm (k+1) (fun i=>cst h (bin (k+1) i)*pwr z i)+cst h (bin (k+1) (k+1))*pwr z (k+1)=_;rw[bin_self,cst_one,H.mulU,H.addC];congr 1;rw[H.sm_one (i:=0) U0 fun j hj hne=>?_]
  . show cst h (bin (k+1) 0)*1=1;rw[bin_zero,cst_one,H.mulU]
  . obtain⟨t,ht⟩:=prime_dvd l (i:=j) U0 U0;show cst h (bin (k+1) j)*pwr z j=0;rw[ht,cst_mul,C.zero,H.zmul,H.zmul]
 by_cases b:y=0
 . rw[b,H.zadd,pwr_zero U0,H.zadd]
 . obtain⟨t,ht⟩:=H.inv y b;(have e:x+y=(x*t+1)*y:=by rw[H.rdist,H.mulU,H.mulA,H.mulC t,ht,H.umul]);(have c:x=x*t*y:=by rw[H.mulA,H.mulC t,ht,H.umul]);rw[e,H.pwr_prod,f,H.rdist,H.mulU,<- H.pwr_prod,<- c]
def Fr(p k:Nat)(x:El q O h):El q O h:=pwr x (p^k)
theorem qcC(p:Nat)(x:El q O h):Fr p 0 x=x:=by show 1*x=x;exact(El.fd (h:=h)).mulU x
theorem fr_comp(p i j:Nat)(x:El q O h):Fr p i (Fr p j x)=Fr p (j+i) x:=by unfold Fr;rw[Nat.pow_add,(El.fd (h:=h)).pwr_mul]
theorem fr_mul(p k:Nat)(x y:El q O h):Fr p k (x*y)=Fr p k x*Fr p k y:=(El.fd (h:=h)).pwr_prod x y _
theorem fr_add{p:Nat}(C:Chr q O h p)(c:∀ d,2<=d->d*d<=p->p % d≠0):∀ (k:Nat) (x y:El q O h),Fr p k (x+y)=Fr p k x+Fr p k y
 |0,x,y=>by rw[qcC,qcC,qcC]
 | k + 1,x,y => by
   have e:∀z:El q O h,Fr p (k+1) z=Fr p 1 (Fr p k z):=fun z=>(fr_comp p 1 k z).symm
   rw[e,e,e,fr_add C c k]
   have b:∀z:El q O h,Fr p 1 z=pwr z p:=fun z=>by
    unfold Fr
    rw[Nat.pow_one]
   rw[b,b,b]
   exact pwr_add_p C c _ _
theorem fr_zero{p:Nat}(b:0<p)(k:Nat):Fr p k (0:El q O h)=0:=pwr_zero (Nat.pow_pos b)
theorem fr_sm{p:Nat}(C:Chr q O h p)(b:∀ d,2<=d->d*d<=p->p % d≠0)(k:Nat)(f:Nat->El q O h):∀ n,Fr p k (sm n f)=sm n fun j=>Fr p k (f j)
 |0=>fr_zero (by have:=C.p1;omega) k
 |n + 1=>by
   show Fr p k (sm n f+f n)=sm n (fun j=>Fr p k (f j))+Fr p k (f n)
   rw[fr_add C b,fr_sm C b k f n]
end
theorem nodup_lt:∀ (n:Nat) (l:List Nat),l.Nodup->(∀ x∈l,x<n)->l.length<=n
 |0,[],_,_=>Nat.le_refl _
 |0,x :: _,_,h=>absurd (h x List.mem_cons_self) U0
 | n + 1,l,hn,h => by
   have h1:=nodup_lt n (l.erase n) (hn.erase n) fun x hx=>by
    obtain⟨d,c⟩:=(hn.mem_erase_iff).1 hx
    have:=h x c
    omega
   by_cases b:n∈l
   . rw[List.length_erase_of_mem b] at h1
     omega
   . rw[List.erase_of_not_mem b] at h1
     omega
section
variable {p m m1:Nat} {l l1 md md1:List Nat} {hF:FT p m md l} {hF1:FT p m1 md1 l1} {r:El (p^m) (opsT p m l) (fld_of hF)}
theorem fermat(hF:FT p m md l)(z:El (p^m) (opsT p m l) (fld_of hF)):Fr p m z=z:=by
 have H:=El.fd (h:=fld_of hF);have g:=(fld_of hF).q1;by_cases c:z=0
 . rw[c];exact fr_zero (by have:=hF.small.p1;omega) m
 . obtain⟨G,f,_,d,_⟩:=log_of hF (x:=z.n) z.lt (fun e=>c (El.eq e));have i:El.of (fld_of hF) z.n=z:=El.eq (El.of_n z.lt);rw[i] at d;unfold Fr;rw[d];generalize (logL l (p^m)).getD z.n 0=e;(have b:∀k,k=p^m-1+1->pwr G k=G:=by rintro _ rfl;show pwr G (p^m-1)*G=G;rw[f,H.mulU]);rw[<- H.pwr_mul,Nat.mul_comm,H.pwr_mul,b _ U0]
theorem phi_inj(f:Emb hF hF1 r){x y:El (p^m1) (opsT p m1 l1) (fld_of hF1)}(e:phi hF hF1 r x=phi hF hF1 r y):x=y:=by
 have H:=El.fd (h:=fld_of hF);have b:=El.fd (h:=fld_of hF1);refine Classical.byContradiction fun hne=>?_;have d:x+-y≠0:=fun h=>hne (b.subz h);refine phi_ne f d ?_;have c:phi hF hF1 r y+phi hF hF1 r (-y)=0:=by rw[<- phi_add,b.addN,phi_zero]
 rw[phi_add,e,c]
theorem fixed_im(S:Emb hF hF1 r){y:El (p ^ m) (opsT p m l) (fld_of hF)}(T:Fr p m1 y=y):∃ a,phi hF hF1 r a=y:=by
 have H:=El.fd (h:=fld_of hF);have O:=El.fd (h:=fld_of hF1);have M:=(fld_of hF).q1;have N:=(fld_of hF1).q1;refine Classical.byContradiction fun hno=>?_;have o:((List.range (p^m1)).map fun x=>phi hF hF1 r (El.of (fld_of hF1) x)).Nodup:=by rw[List.nodup_iff_pairwise_ne,List.pairwise_map];refine List.Pairwise.imp_of_mem ?_ List.nodup_range;intro a b J K d e;exact d (El.of_inj (h:=fld_of hF1) (List.mem_range.1 J) (List.mem_range.1 K) (phi_inj S e))
 have q:y∉(List.range (p^m1)).map fun x=>phi hF hF1 r (El.of (fld_of hF1) x):=fun hm=>by obtain⟨a,_,e⟩:=List.mem_map.1 hm;exact hno ⟨_,e⟩
 have D:=List.nodup_cons.2 ⟨q,o⟩;have i:(y :: (List.range (p ^ m1)).map fun x=>phi hF hF1 r (El.of (fld_of hF1) x)).length=p ^ m1+1:=U2;have f:∀ z∈y :: (List.range (p ^ m1)).map fun x=>phi hF hF1 r (El.of (fld_of hF1) x),Fr p m1 z=z:=fun z hz=>by
  rcases List.mem_cons.1 hz with rfl|hz
  . exact T
  . obtain ⟨a,_,rfl⟩ := List.mem_map.1 hz;generalize El.of (fld_of hF1) a=t;have s:∀ n,phi hF hF1 r (pwr t n)=pwr (phi hF hF1 r t) n:=by
     intro n;induction n with
     |zero=>exact im_one hF1.small.m1
     |succ n ih=>show phi hF hF1 r (pwr t n*t)=pwr (phi hF hF1 r t) n*phi hF hF1 r t;rw[phi_mul S,ih]
    have c:=fermat hF1 t;unfold Fr at c ⊢;rw[<- s,c]
 generalize (y :: (List.range (p^m1)).map fun x=>phi hF hF1 r (El.of (fld_of hF1) x))=Z at *;by_cases L:p^m1<p^m
 . obtain ⟨v,P,B⟩ := ev_mono H (p ^ m1) (p ^ m1 + 1) U0;obtain ⟨A,Q,C⟩:=ev_mono H 1 (p ^ m1+1) U0
   have g:=H.roots (List.zipWith (fun a b=>a+-1*b) v A) Z D (fun z hz=>by
    rw[H.ev_lin (-1) v A U0,B,C]
    have:=f z hz
    unfold Fr at this
    rw[this,H.negm,H.mulU]
    show z+-(1*z)=0
    rw[H.mulU,H.addN]) (by rw[List.length_zipWith];omega)
   obtain⟨G,E,j,_,_⟩:=log_of hF (x:=1) M U0;have c:=g G;rw[H.ev_lin (-1) v A U0,B,C,H.negm,H.mulU] at c;have k:pwr G (p^m1)=pwr G 1:=H.subz c;have R:=j;by_cases u:p^m1<p^m-1
   . have:=j (p^m1) 1 u U0 k;omega
   . (have e:p^m1=p^m-1:=by omega);rw[e,E] at k;have I:pwr G 0=pwr G 1:=k;have:=j 0 1 U0 U0 I;omega
 . have c := nodup_lt (p ^ m) (Z.map El.n) (by
    rw[List.nodup_iff_pairwise_ne,List.pairwise_map]
    exact List.Pairwise.imp (fun d e=>d (El.eq e)) D) (fun x hx=>by
     obtain⟨z,_,rfl⟩:=List.mem_map.1 hx
     exact z.lt)
   rw[List.length_map,i] at c;omega
end
end Al
namespace Al
section
variable {q:Nat} {O:Ops} {h:Fld q O}
def Sol(h:Fld q O)(p m1 n:Nat)(L:Nat->El q O h)(x:El q O h)(c:Nat->El q O h):Prop:=∀i,i<n->sm n (fun j=>Fr p (m1*i) (L j)*c j)=Fr p (m1*i) x
def Uni(h:Fld q O)(p m1 n:Nat)(L:Nat->El q O h):Prop:=∀c:Nat->El q O h,(∀i,i<n->sm n (fun j=>Fr p (m1*i) (L j)*c j)=0)->∀j,j<n->c j=0
theorem sm_sub(n:Nat)(f c d:Nat->El q O h):sm n (fun j=>f j*(c j+-d j))=sm n (fun j=>f j*c j)+-sm n fun j=>f j*d j:=by
 have H:=El.fd (h:=h);have e:sm n (fun j=>f j*(c j+-d j))=sm n (fun j=>f j*c j+-1*(f j*d j)):=H.sm_congr fun j _=>by rw[H.dist,H.mneg,H.negm,H.mulU]
 rw[e,H.sm_lin,H.negm,H.mulU]
theorem sol_uni{p m1 n:Nat}{L:Nat->El q O h}(U:Uni h p m1 n L){x:El q O h}{c d:Nat->El q O h}(b:Sol h p m1 n L x c)(f:Sol h p m1 n L x d):∀j,j<n->c j=d j:=fun j hj=>by
 have H:=El.fd (h:=h)
 refine H.subz (U (fun j=>c j+-d j) (fun i hi=>?_) j hj)
 rw[sm_sub,b i hi,f i hi,H.addN]
theorem fr_fix{p m1:Nat}{a:El q O h}(b:Fr p m1 a=a):∀i,Fr p (m1*i) a=a
 |0=>by rw[Nat.mul_zero,qcC]
 |i+1=>by rw[Nat.mul_succ,<- fr_comp,fr_fix b i,b]
theorem sol_step{p m1 n:Nat}(C:Chr q O h p)(k:∀d,2<=d->d*d<=p->p % d≠0){L:Nat->El q O h}{x y a:El q O h}{c d:Nat->El q O h}(b:Sol h p m1 n L x c)(f:Sol h p m1 n L y d)(g:Fr p m1 a=a):Sol h p m1 n L (x+a*y) fun j=>c j+a*d j:=fun i hi=>by
 have H:=El.fd (h:=h)
 rw[fr_add C k,fr_mul,fr_fix g,<- b i hi,<- f i hi,<- H.sm_lin]
 refine H.sm_congr fun j _=>?_
 show _*(c j+a*d j)=_
 rw[H.dist,<- H.mulA _ a,H.mulC _ a,H.mulA]
theorem sol_zero{p m1 n:Nat}(b:0<p){L:Nat->El q O h}:Sol h p m1 n L 0 fun _=>0:=fun i _=>by
 have H:=El.fd (h:=h)
 rw[fr_zero b]
 exact H.sm_zero fun j _=>H.mulZ _
end
section
variable {p m m1:Nat} {l l1 md md1:List Nat} {hF:FT p m md l} {hF1:FT p m1 md1 l1} {r:El (p^m) (opsT p m l) (fld_of hF)}
theorem sol_fix(o:∀d,2<=d->d*d<=p->p % d≠0){n:Nat}(k:m1*n=m){L:Nat->El (p^m) (opsT p m l) (fld_of hF)}(U:Uni (fld_of hF) p m1 n L){x:El (p^m) (opsT p m l) (fld_of hF)}{c:Nat->El (p^m) (opsT p m l) (fld_of hF)}(g:Sol (fld_of hF) p m1 n L x c):∀j,j<n->Fr p m1 (c j)=c j:=by
 have H:=El.fd (h:=fld_of hF);refine sol_uni U (x:=x) (c:=fun j=>Fr p m1 (c j)) (d:=c) (fun i hi=>?_) g;have b:∀i',i'<n->(∀z:El (p^m) (opsT p m l) (fld_of hF),Fr p (m1*i'+m1) z=Fr p (m1*i) z)->sm n (fun j=>Fr p (m1*i) (L j)*Fr p m1 (c j))=Fr p (m1*i) x:=fun i' hi' hz=>by have f:=congrArg (Fr p m1) (g i' hi');rw[fr_sm (chr_of hF) o,fr_comp,hz] at f;rw[<- f];refine H.sm_congr fun j _=>?_;rw[fr_mul,fr_comp,hz]
 rcases i with _|i
 . refine b (n-1) U0 fun z=>?_;(have e:m1*(n-1)+m1=m:=by rw[<- Nat.mul_succ,show(n-1).succ=n by omega,k]);rw[e,fermat hF,Nat.mul_zero,qcC]
 . exact b i U0 fun z=>by rw[Nat.mul_succ]
theorem phi_fix(d:Emb hF hF1 r)(t:El (p^m1) (opsT p m1 l1) (fld_of hF1)):Fr p m1 (phi hF hF1 r t)=phi hF hF1 r t:=by
 have b:∀n,phi hF hF1 r (pwr t n)=pwr (phi hF hF1 r t) n:=by
  intro n;induction n with
  |zero=>exact im_one hF1.small.m1
  |succ n ih=>show phi hF hF1 r (pwr t n*t)=pwr (phi hF hF1 r t) n*phi hF hF1 r t;rw[phi_mul d,ih]
 have c:=fermat hF1 t;unfold Fr at c ⊢;rw[<- b,c]
end
section
variable {q q1:Nat} {O O1:Ops} {h:Fld q O} {h1:Fld q1 O1}
structure Cat (emb:El q1 O1 h1->El q O h) (ni:Nat) (I:List (List Nat)) (φ:El q O h->Nat->El q1 O1 h1):Prop where
 lin:∀x y a j,j<ni->φ (x+emb a*y) j=φ x j+a*φ y j
 zero:∀j,j<ni->φ 0 j=0
 inI:∀x,InC h1 ni I (φ x)
 inj:∀x,(∀j,j<ni->φ x j=0)->x=0
def QCat(φ:El q O h->Nat->El q1 O1 h1)(no ni:Nat)(Out:List (List Nat))(f:Nat->El q1 O1 h1):Prop:=∃u:Nat->El q O h,InC h no Out u/\∀i j,i<no->j<ni->f (i*ni+j)=φ (u i) j
theorem qCat_lin{n:El q1 O1 h1->El q O h}{t:Nat}{I:List (List Nat)}{φ:El q O h->Nat->El q1 O1 h1}(C:Cat n t I φ)(s:Nat)(o:List (List Nat)):LinF q1 O1 h1 (QCat φ s t o) where
 zero:=⟨fun _=>0,(inC_lin s o).zero,fun _ j _ hj=>(C.zero j hj).symm⟩
 step f g a hf hg:=by
  obtain⟨u,b,c⟩:=hf
  obtain⟨v,d,k⟩:=hg
  refine⟨fun i=>u i+n a*v i,(inC_lin s o).step _ _ (n a) b d,fun i j hi hj=>?_⟩
  show f _+a*g _=φ (u i+n a*v i) j
  rw[c i j hi hj,k i j hi hj,C.lin _ _ _ j hj]
theorem cat_law{s:El q1 O1 h1->El q O h}{g k v t:Nat}{I o:List (List Nat)}{φ:El q O h->Nat->El q1 O1 h1}(C:Cat s g I φ)(y:MinW h k o v)(x:MinW h1 g I t){f:Nat->El q1 O1 h1}(z:QCat φ k g o f):wf (k*g) f=0\/v*t<=wf (k*g) f:=by
 obtain⟨u,c,d⟩:=z;have e:wf (k*g) f=ns k fun i=>wf g (φ (u i)):=by rw[wf_blocks];exact ns_congr fun i hi=>wf_congr fun j hj=>d i j hi hj
 rw[e];rcases y _ c with h2|h2
 . left;exact ns_zero fun i hi=>qcW fun j hj=>by rw[h2 i hi,C.zero j hj]
 . right;refine Nat.le_trans (Nat.mul_le_mul_right t h2) ?_;rw[Nat.mul_comm];unfold wf;rw[<- ns_mul];refine ns_le fun i hi=>?_;by_cases b:(u i).n=0
   . rw[if_pos b];exact Nat.zero_le _
   . rw[if_neg b,Nat.mul_one];exact(x _ (C.inI (u i))).resolve_left fun hall=>b (El.n_zero.2 (C.inj _ hall))
end
section
variable {p m m1:Nat} {l l1 md md1:List Nat} {hF:FT p m md l} {hF1:FT p m1 md1 l1} {r:El (p^m) (opsT p m l) (fld_of hF)}
theorem cat_of(z:Emb hF hF1 r)(E:∀ d,2<=d->d*d<=p->p % d≠0){n B:Nat}(A:0<n){L:Nat->El (p ^ m) (opsT p m l) (fld_of hF)}(U:Uni (fld_of hF) p m1 n L){I:List (List Nat)}{D:List Nat}(K:I.length=n)(J:∀ i k,i<I.length->k<I.length->at2 I i (D.getD k 0)=if i=k then 1 else 0)(C:∀ k,k<I.length->D.getD k 0<B){b:El (p ^ m) (opsT p m l) (fld_of hF)->Nat->El (p ^ m1) (opsT p m1 l1) (fld_of hF1)}(v:∀ x,Sol (fld_of hF) p m1 n L x fun j=>phi hF hF1 r (b x j)):
 Cat (phi hF hF1 r) B I fun x j=>sm I.length fun i=>b x i*wd (fld_of hF1) (I.getD i []) j:=by
 have H:=El.fd (h:=fld_of hF);have g:=El.fd (h:=fld_of hF1);have q:0<p:=by have:=hF.small.p1;omega
 have o:∀i,i<n->b 0 i=0:=fun i hi=>phi_inj z (by
  rw[sol_uni U (v 0) (sol_zero q) i hi,phi_zero])
 refine⟨fun x y a j hj=>?_,fun j hj=>?_,fun x=>⟨b x,fun j _=>rfl⟩,fun x hx=>?_⟩
 . have t : ∀ i,i < n -> b (x + phi hF hF1 r a * y) i = b x i + a * b y i := fun i hi => phi_inj z (by
    rw[sol_uni U (v (x+phi hF hF1 r a*y)) (sol_step (chr_of hF) E (v x) (v y) (phi_fix z a)) i hi,phi_add,phi_mul z])
   rw[<- g.sm_lin];refine g.sm_congr fun i hi=>?_;rw[t i U0,g.rdist,g.mulA]
 . exact g.sm_zero fun i hi=>by rw[o i U0,g.zmul]
 . (have u:∀i,i<n->b x i=0:=fun i hi=>by rw[<- unit_coef (h:=fld_of hF1) J C (c:=b x) (f:=fun j=>sm I.length fun i=>b x i*wd (fld_of hF1) (I.getD i []) j) (fun j _=>rfl) (k:=i) U0];exact hx _ (C i U0));have s:=v x 0 A;rw[Nat.mul_zero,qcC] at s;rw[<- s];exact H.sm_zero fun j hj=>by show Fr p 0 (L j)*phi hF hF1 r (b x j)=0;rw[u j hj,phi_zero,H.mulZ]
end
end Al
end Go.Proofs.YtndipkplnkfoeaaGreat
namespace Go.Proofs.YtndipkplnkfoeaaGreat
open Go.RowKit Pln
open Al
section
variable {p m m1:Nat} {md l md1 l1:List Nat}
theorem emb_of(hF:FT p m md l)(q:FT p m1 md1 l1){r:Nat}(s:r<p ^ m)(k:md1.length=m1)(o:∀ d∈md1,d<p)(t:m1=1->md1=[0])(n:m1=1\/evN (opsT p m l) (md1++[1]) r=0):
 ∃r',r'<p^m/\Emb hF q (El.of (fld_of hF) r')/\∀x,imN (opsT p m l) p m1 r x=imN (opsT p m l) p m1 r' x:=by
 have H:=El.fd (h:=fld_of hF);have g:=(fld_of hF).q1;have f:p<=p^m:=Nat.le_self_pow (by have:=hF.small.m1;omega) p;by_cases b:m1=1
 . refine⟨0,U0,⟨?_⟩,fun x=>?_⟩
   . rw[t b,b,El.of_zero];show(0+cst (fld_of hF) 0*1)+1*0=0;rw[H.mulU,H.addZ,H.zadd];exact H.zmul 1
   . rw[b];rfl
 . rcases n with h | h
   . exact absurd h b
   . refine ⟨r,s,⟨?_⟩,fun x => rfl⟩;have i:∀ a∈md1++[1],a<p ^ m:=fun a ha=>by
      rcases List.mem_append.1 ha with h|h
      . have:=o a h;omega
      . (have:a=1:=by simpa using h);omega
     have e:=of_evN (h:=fld_of hF) s (md1++[1]) i;rw[h,El.of_zero,ev_sm,List.map_append,List.length_append,List.length_map,k] at e;show Es (fld_of hF) (El.of (fld_of hF) r) m1 md1+pwr (El.of (fld_of hF) r) m1=0;rw[e];show _=sm m1 _+_;congr 1
     . refine H.sm_congr fun j hj=>?_;(have c:(md1.map (El.of (fld_of hF))++[1].map (El.of (fld_of hF))).getD j 0=El.of (fld_of hF) (md1.getD j 0):=by simp[List.getD,List.getElem?_append_left,k,hj]);(have hd:md1.getD j 0<p:=by rw[getD_at U0];exact o _ (List.getElem_mem _));rw[c,(chr_of hF).of _ hd]
     . (have c:(md1.map (El.of (fld_of hF))++[1].map (El.of (fld_of hF))).getD m1 0=El.of (fld_of hF) 1:=by simp[List.getD,k]);show _=(md1.map (El.of (fld_of hF))++[1].map (El.of (fld_of hF))).getD m1 0*pwr (El.of (fld_of hF) r) m1;rw[c,El.of_one,H.mulU]
end
end Go.Proofs.YtndipkplnkfoeaaGreat
namespace Go.Proofs.YtndipkplnkfoeaaGreat
open Go.RowKit Pln
structure StX (X:World->Nat->StD->List Value->Prop):Prop where
 keep:∀{w w':World}{B:Nat}{d:StD}{cs:List Value},X w B d cs->Below B w w'->X w' B d cs
 more:∀{w:World}{B B':Nat}{d:StD}{cs:List Value},X w B d cs->B<=B'->X w B' d cs
 stc:∀{w:World}{B:Nat}{d:StD}{cs:List Value},X w B d cs->StC w B d cs
def StsX(X:World->Nat->StD->List Value->Prop)(w:World)(B:Nat)(A:Option Addr)(ds:List StD):Prop:=
 0<ds.length->∃b o,A=some (zA b o)/\b<B/\∀i d,ds[i]?=some d->∃cs,w.rangeAt b (o+i*23) cs/\X w B d cs
section
variable {X:World->Nat->StD->List Value->Prop}
theorem StsX.at_{w:World}{B:Nat}{A:Option Addr}{j:List StD}(h:StsX X w B A j){i:Nat}(k:i<j.length):∃b o cs,A=some (zA b o)/\b<B/\w.rangeAt b (o+i*23) cs/\X w B (j[i]'k) cs:=by obtain⟨b,o,e,c,g⟩:=h U0;obtain⟨cs,d,f⟩:=g i _ (List.getElem?_eq_getElem k);exact⟨b,o,cs,e,c,d,f⟩
theorem StsX.sts(m:StX X){w:World}{B:Nat}{A:Option Addr}{l:List StD}(h:StsX X w B A l):StsAt w B A l:=fun hz=>by
 obtain⟨b,o,e,c,k⟩:=h hz
 exact⟨b,o,e,c,fun i d hd=>by
  obtain⟨f,g,j⟩:=k i d hd
  exact⟨f,g,m.stc j⟩⟩
theorem StsX.keep(q:StX X){w w':World}{B:Nat}{A:Option Addr}{m:List StD}(h:StsX X w B A m)(n:Below B w w'):StsX X w' B A m:=fun hz=>by
 obtain⟨b,o,e,c,l⟩:=h hz
 refine⟨b,o,e,c,fun i d hd=>?_⟩
 obtain⟨f,g,k⟩:=l i d hd
 exact⟨f,fun j v hv=>(n.cell (p:=(zA b (o+i*23+j))) c).trans (g j v hv),q.keep k n⟩
theorem StsX.more(n:StX X){w:World}{B B':Nat}{A:Option Addr}{l:List StD}(h:StsX X w B A l)(m:B<=B'):StsX X w B' A l:=fun hz=>by
 obtain⟨b,o,e,k,j⟩:=h hz
 refine⟨b,o,e,U0,fun i d hd=>?_⟩
 obtain⟨c,f,g⟩:=j i d hd
 exact⟨c,f,n.more g m⟩
def FromX(X:World->Nat->StD->List Value->Prop)(w:World)(B:Nat)(v:Value)(ps:List StD):Prop:=
 ∃xs:List Value,w.ownsRow B 40 23 v ps.length xs/\∀(i:Nat)(p:StD),ps[i]?=some p->∃cp:List Value,X w B p cp/\∀j u,cp[j]?=some u->xs[i*23+j]?=some u
theorem FromX.nil(w:World)(B:Nat):FromX X w B (zL none 0 0) []:=⟨[],World.ownsRow_nil _ _ _ _,fun i p h=>by simp at h⟩
theorem own_sliceX{w:World}{base n:Nat}{e:TypeId}{s:Nat}{v:Value}{xs:List Value}(h:w.ownsRow base e s v n xs):∃VA ck,v=zL VA n ck/\(0<n->∃R,VA=some (zA R 0)/\base<=R/\R<w.heap.size/\n<=ck):=by
 rcases h.2 with⟨c,d⟩|⟨g,b,cur,k,f,j,i,_⟩
 . subst d;exact⟨_,_,c,fun h=>U0⟩
 . exact⟨_,_,k,fun _=>⟨g,rfl,f,block_lt j,i⟩⟩
theorem FromX.form{w:World}{B:Nat}{v:Value}{d:List StD}(h:FromX X w B v d):∃VA ck,v=zL VA d.length ck/\(0<d.length->∃R,VA=some (zA R 0)/\B<=R/\R<w.heap.size/\d.length<=ck):=by obtain⟨c,b,_⟩:=h;exact own_sliceX b
theorem FromX.range{w:World}{B:Nat}{R n m:Nat}{l:List StD}(h:FromX X w B (zS R n m) l){i:Nat}{p:StD}(o:l[i]?=some p):∃cp,w.rangeAt R (i*23) cp/\X w B p cp:=by obtain⟨k,f,d⟩:=h;obtain⟨cp,b,c⟩:=d i p o;refine⟨cp,fun j u hu=>?_,b⟩;have:=f.cells (g:=R) rfl (i*23+j) u (c j u hu);rw[Addr.add_mid,Nat.zero_add] at this;exact this
theorem own_belowX{w w':World}{B n:Nat}{e:TypeId}{s:Nat}{v:Value}{xs:List Value}(h:w.ownsRow B e s v n xs)(k:Below w.heap.size w w'):w'.ownsRow B e s v n xs:=by
 refine⟨h.1,?_⟩;rcases h.2 with⟨d,f⟩|⟨g,b,cur,j,i,c,r⟩
 . exact .inl ⟨d,f⟩
 . exact .inr ⟨g,b,cur,j,i,(k.block g (block_lt c)).trans c,r⟩
theorem FromX.grow(m:StX X){w w':World}{B:Nat}{v:Value}{k:List StD}(h:FromX X w B v k)(l:B<=w.heap.size)(j:Below w.heap.size w w'):FromX X w' B v k:=by obtain⟨g,f,d⟩:=h;refine⟨g,own_belowX f j,fun i p hp=>?_⟩;obtain⟨cp,b,c⟩:=d i p hp;exact⟨cp,m.keep b (j.mono l),c⟩
theorem FromX.append(M:StX X){w:World}{B:Nat}{v:Value}{L:List StD}(h:FromX X w B v L)(N:B<=w.heap.size)(R:L.length<=1000){p:StD}{cp:List Value}(Q:X w B p cp){o:Obj}(O:o=.cells cp.toArray 40):
 ∃(v':Value)(w2:World),(Builtin.append_ #[22,22] 22 #[v,zS w.heap.size 1 1]).run Tryz.prog (w.alloc o)=.ok v' w2/\Below B w w2/\w.heap.size<=w2.heap.size/\FromX X w2 B v' (L++[p]):=by
 subst O;obtain⟨K,m,t,x,y⟩:=qaF infoStep;obtain⟨C,g,J⟩:=h;have l:=(M.stc Q).len;have b:Below w.heap.size w (w.alloc (.cells cp.toArray 40)):=(Below.refl _ _).alloc (Nat.le_refl _) _;have s:(w.alloc (.cells cp.toArray 40)).rangeAt w.heap.size 0 cp:=range_of_row (heap_alloc_new _ _)
 obtain⟨v',w2,f,d,A,_,I⟩:=run_append_own_at (P:=Tryz.prog) (w:=w.alloc (.cells cp.toArray 40)) B 22 22 40 K _ 23 344 Tryz.underlying22 m t x y rfl dc v L.length C (own_belowX g b) (zA w.heap.size 0) 1 1 cp (by rw[l])
  (fun j u hj=>by rw[Addr.add_mid];exact s j u hj) (M.stc Q).one U3 U0 (Nat.le_trans N b.size)
 have c:Below B w w2:=(b.mono N).grown A (Nat.le_trans N b.size) fun k hk=>(g.lt k hk).1;refine⟨v',w2,f,c,Nat.le_trans b.size A.size,C++cp,by rw[List.length_append];exact d,fun i q hq=>?_⟩;by_cases m:i<L.length
 . rw[List.getElem?_append_left m] at hq;obtain⟨D,E,H⟩:=J i q hq;refine⟨D,M.keep E c,fun j u hu=>?_⟩;have z:=H j u hu;rw[List.getElem?_append_left (List.getElem?_eq_some_iff.1 z).1];exact z
 . (have n:i=L.length:=by have:=(List.getElem?_eq_some_iff.1 hq).1;simp at this;omega);subst n;(have r:q=p:=by simpa using hq.symm);subst r;refine⟨cp,M.keep Q c,fun j u hu=>?_⟩;rw[List.getElem?_append_right (by rw[g.1];omega),g.1,Nat.add_sub_cancel_left];exact hu
end
theorem SB.low{w:World}{b:Nat}{cs:List Value}{W i:World}(h:SB w b cs W){B:Nat}(j:Below B W i)(k:b<B)(l:W.heap.size<=i.heap.size):SB w b cs i:=by obtain⟨c,d,f,g⟩:=h;exact⟨(j.block _ k).trans c,d.trans (j.mono U0),f,Nat.lt_of_lt_of_le g l⟩
def AccOk(ds:List StD)(k:Nat)(s:StD)(ps:List StD):Prop:=ps.length=s.frm.length/\∀(i:Nat)(p:StD),ps[i]?=some p->∃a:Nat,s.frm[i]?=some (a:Int)/\a<k/\ds[a]?=some p
def AccPost(w:World)(ds:List StD)(k:Nat)(P:StD->List StD->Prop)(e:Ending)(w':World):Prop:=
 ∃z,e=.returned (Y z)/\Below w.heap.size w w'/\(z=0->∃(s:StD)(ps:List StD),ds[k]?=some s/\AccOk ds k s ps/\formZ s=0/\(∀p∈ps,formZ p=0)/\P s ps)
def RelGs(X:World->Nat->StD->List Value->Prop)(w w2:World)(cs:List Value)(ds:List StD)(k:Nat)(s:StD)(v7 v66:Value)(wr:World):Prop:=
 SB w w.heap.size cs wr/\w2.heap.size<=wr.heap.size/\∃(j:Nat)(ps:List StD),j<=s.frm.length/\v66=Y j/\ps.length=j/\FromX X wr w2.heap.size v7 ps/\∀(i:Nat)(p:StD),ps[i]?=some p->∃a:Nat,s.frm[i]?=some (a:Int)/\a<k/\ds[a]?=some p
def RelGt(X:World->Nat->StD->List Value->Prop)(w w2:World)(cs:List Value)(ps:List StD)(v:Value)(v87:Value)(wr:World):Prop:=
 SB w w.heap.size cs wr/\w2.heap.size<=wr.heap.size/\FromX X wr w2.heap.size v ps/\∃j:Nat,j<=ps.length/\v87=Y j/\∀(i:Nat)(p:StD),i<j->ps[i]?=some p->formZ p=0
theorem qcN{X:World->Nat->StD->List Value->Prop}(hX:StX X)(P:StD->List StD->Prop)(np:Nat)(d6:np<=3)(ds:List StD)(A:Option Addr)(c k:Nat)(w:World)(hA:StsX X w w.heap.size A ds)(hk:∀ d∈ds,d.ok)(hl:ds.length<=1000)(hi:k<ds.length)(h0:¬ (ds[k]'hi).rule<0)(d5:¬ 20<=(ds[k]'hi).rule)(d3:¬ (ds[k]'hi).rule=14)(d4:¬ (ds[k]'hi).rule=18)(cf:∀ W:World,zC 16 #[Y (ds[k]'hi).rule] W fun e w'=>e=.returned (Y (np:Int))/\W=w')(d2:∀ (cs:List Value) (ps:List StD) (v:Value) (B:Nat) (W:World),X W W.heap.size (ds[k]'hi) cs->B<=W.heap.size->FromX X W B v ps->(∀ p∈ps,p.ok/\formZ p=0)->ps.length=np->formZ (ds[k]'hi)=0->zC 17 #[.agg cs.toArray,v] W fun e w'=>∃ b,e=.returned (.bool b)/\Below W.heap.size W w'/\(b=true->P (ds[k]'hi) ps)):
 zC 7 #[zL A ds.length c,Y k] w (AccPost w ds k P):=by
 obtain⟨b,o,dq,rfl,dx,cd,hx⟩:=hA.at_ hi;have ch:ds[k]?=some (ds[k]'hi):=List.getElem?_eq_getElem hi;have ci:(ds[k]'hi).ok:=hk _ (List.getElem_mem hi);generalize ds[k]'hi=s at *;have bu:=zH hx;have cj:=hX.stc hx;have bt:=zH cj;have M:=zH hX;obtain⟨V,U,N,S,T,Z,Aq,Ar,As,At,cm,cg,O,ca,cb,f,cq,cr,g,ct,rfl,dh,h1,h2,h3,h4,h5⟩:=cj;have cx:=zH h3;clear dh h1 h2 h3 h4 h5 hx hX;have HA:=zH hA;have HK:=zH hk;have c7:=zH ch;have c8:=zH ci;have bp:=zH cd;have HP:=zH cf
 have a1:Hid (formZ s=0->∀(ps:List StD)(v:Value)(B:Nat)(W:World),Below w.heap.size w W->B<=W.heap.size->FromX X W B v ps->(∀p∈ps,p.ok/\formZ p=0)->ps.length=np->zC 17 #[.agg (stCells s V U N S T Z Aq Ar As At cm cg O ca cb f cq cr g ct).toArray,v] W fun e w'=>∃b,e=.returned (.bool b)/\Below W.heap.size W w'/\(b=true->P s ps)):=
  fun hf ps v B W hW hB hF av hlen=>d2 _ ps v B W (M.out.more (M.out.keep bu.out hW) hW.size) hB hF av hlen hf
 have HX:=zH (sb_new w (stCells s V U N S T Z Aq Ar As At cm cg O ca cb f cq cr g ct));have k0:¬(k:Int)<0:=U0;have k1:¬(ds.length:Int)<=(k:Int):=U0;have k2:¬(4096:Int)<(ds.length:Int):=U0;have k3:(0:Int)<=(k:Int):=U0;have k4:(k:Int)<(ds.length:Int):=U0;have dr:(s.rule==14)=false:=beq_false_of_ne d3;have dt:(s.rule==18)=false:=beq_false_of_ne d4;have bh:Hid ((stCells s V U N S T Z Aq Ar As At cm cg O ca cb f cq cr g ct).toArray.all (·.oneCell')=true):=by show _=_;simp[stCells,Value.oneCell']
 have HC:Hid (∀W:World,Below w.heap.size w W->zC 15 #[.agg (stCells s V U N S T Z Aq Ar As At cm cg O ca cb f cq cr g ct).toArray] W fun e w'=>e=.returned (Y (formZ s))/\Below W.heap.size W w'):=fun W hW=>formed_g s _ W (bt.out.lift hW) c8.out;clear hA hk ch ci cd cf d2 bt bu;go_enter Tryz.func7,Tryz.ntmps7
 go_upto_region 6 with(first
  |(refine wpList_load_mid rfl 40 (.tmp 25) rfl b (o+k*23) rfl (stCells s V U N S T Z Aq Ar As At cm cg O ca cb f cq cr g ct) _ bp.out Tryz.underlying40 rfl stepSize ?_)
  |(refine qaH rfl 40 (.tmp 5) (.tmp 26) rfl w _ (stCells s V U N S T Z Aq Ar As At cm cg O ca cb f cq cr g ct).toArray rfl rfl stepSize rfl bh.out ?_))
 generalize w.alloc (.cells (stCells s V U N S T Z Aq Ar As At cm cg O ca cb f cq cr g ct).toArray 40)=W0 at *;have bq:=zH HX.out.range;have a7:=zH (HC.out W0 HX.out.2.1);clear HC;go_wp2_with (refine wpList_load_mid rfl 40 (.tmp 5) rfl w.heap.size 0 rfl (stCells s V U N S T Z Aq Ar As At cm cg O ca cb f cq cr g ct) _ bq.out Tryz.underlying40 rfl stepSize ?_);refine a7.out.mono ?_;rintro e w1 ⟨rfl,hb1⟩;have af:=zH (HX.out.grow hb1);clear hb1 HX a7 bq bp;by_cases ab:formZ s=0;rotate_left
 . have dz:(formZ s != 0)=true:=bne_iff_ne.2 ab;have cy:=zH ab;clear ab a1;generalize formZ s=z at *;go_wp2_with fail;go_ret;exact⟨_,rfl,af.out.2.1,fun h=>absurd h cy.out⟩
 have cn:=zH ab;have ay:=zH (a1.out ab);rw[ab];clear ab a1;have y0:w1.cell? (zA w.heap.size 0)=some (Y s.rule):=af.out.cell rfl;by_cases ar:s.frm.length=np;rotate_left
 . have dd : ((s.frm.length : Int) != (np : Int)) = true := bne_iff_ne.2 U0;clear ar ay;go_upto_region 11 with fail;refine qaD (SB w w.heap.size (stCells s V U N S T Z Aq Ar As At cm cg O ca cb f cq cr g ct)) U1 U1 (af.out.grow (Below.refl _ _).drew) ?_
   repeat (first
    | (apply qaJ rfl
       . intro W L
         have y0:W.cell? (zA w.heap.size 0)=some (Y s.rule):=L.cell rfl
         have y7:W.cell? (zA w.heap.size 7)=some (zL N s.frm.length O):=L.cell rfl
         go_simp
         try rfl
       go_simp)
    | (apply qbD rfl
       . intro W L
         have y0:W.cell? (zA w.heap.size 0)=some (Y s.rule):=L.cell rfl
         have y7:W.cell? (zA w.heap.size 7)=some (zL N s.frm.length O):=L.cell rfl
         go_simp
         try rfl
       go_simp)
    | (apply qaO rfl
       . intro W L
         go_simp
         exact⟨rfl,rfl⟩
       . intro W L
         exact(HP.out W).mono (by rintro e w' ⟨rfl,rfl⟩;exact⟨rfl,L⟩)
       go_simp)
    |(apply qbI rfl;go_simp))
   refine qaE ?_;intro w2 L;have ag:=zH L;clear L af y0;go_wp2_with fail;go_ret;exact⟨_,rfl,ag.out.2.1,fun h=>by cases h⟩
 have ba:=zH ar;have dd:((s.frm.length:Int) != (np:Int))=false:=by rw[ar];exact bne_self_eq_false _
 clear ar;go_upto_region 11 with fail;refine qaD (SB w w.heap.size (stCells s V U N S T Z Aq Ar As At cm cg O ca cb f cq cr g ct)) U1 U1 (af.out.grow (Below.refl _ _).drew) ?_
 repeat (first
  | (apply qaJ rfl
     . intro W L
       have y0:W.cell? (zA w.heap.size 0)=some (Y s.rule):=L.cell rfl
       have y7:W.cell? (zA w.heap.size 7)=some (zL N s.frm.length O):=L.cell rfl
       go_simp
       try rfl
     go_simp)
  | (apply qbD rfl
     . intro W L
       have y0:W.cell? (zA w.heap.size 0)=some (Y s.rule):=L.cell rfl
       have y7:W.cell? (zA w.heap.size 7)=some (zL N s.frm.length O):=L.cell rfl
       go_simp
       try rfl
     go_simp)
  | (apply qaO rfl
     . intro W L
       go_simp
       exact⟨rfl,rfl⟩
     . intro W L
       exact(HP.out W).mono (by rintro e w' ⟨rfl,rfl⟩;exact⟨rfl,L⟩)
     go_simp)
  |(apply qbI rfl;go_simp))
 refine qaE ?_;intro w2 L;have ag:=zH L;clear L af y0;have y7:w2.cell? (zA w.heap.size 7)=some (zL N s.frm.length O):=ag.out.cell rfl;have dp:s.frm.length<=3:=by have:=ba.out;omega
 have bs:Hid (RelGs X w w2 (stCells s V U N S T Z Aq Ar As At cm cg O ca cb f cq cr g ct) ds k s (zL none 0 0) (Y ((0:Nat):Int)) w2):=⟨ag.out,Nat.le_refl _,0,[],U0,rfl,rfl,FromX.nil _ _,fun i p h=>by simp at h⟩;go_upto_region 15 with fail;go_loopw [7,66] (fun v7 v66 wr=>RelGs X w w2 (stCells s V U N S T Z Aq Ar As At cm cg O ca cb f cq cr g ct) ds k s v7 v66 wr) (fun _ v66 _=>s.frm.length-(intOf v66).toNat);case atStart=>exact bs.out
 case round =>
  obtain⟨an,a4,j,ps,hj,rfl,b8,hF,av⟩:=hrel;have aa:=zH an;have ao:=zH hF;have ap:=zH av;have de:=ag.out.2.2.2;have ae:=zH b8;clear an hF av bs y7 b8;obtain⟨VA,ck,rfl,_⟩:=ao.out.form;by_cases au:j<s.frm.length
  . obtain ⟨bf,of,rfl,dg,b0⟩ := cx.out.at_ (k := j) au;obtain ⟨a,a6⟩:∃ a,Hid (s.frm[j]?=some a):=⟨_,List.getElem?_eq_getElem au⟩;(have bx:s.frm.getD j 0=a:=by have:=a6.out;simp [List.getD,this]);rw [bx] at b0;clear bx;have y9:wr.cell? (zA bf (of+j))=some (Y a):=(aa.out.2.1.cell (p:=(zA bf (of+j))) dg).trans b0;have j8:(0:Int)<=(j:Int):=U0;have j9:(j:Int)<(s.frm.length:Int):=U0;by_cases n0:a<0
    . go_wp2_with fail;go_ret;exact⟨_,rfl,aa.out.2.1,fun h=>by cases h⟩
    by_cases n1:(k:Int)<=a
    . go_wp2_with fail;go_ret;exact⟨_,rfl,aa.out.2.1,fun h=>by cases h⟩
    obtain⟨t,rfl⟩:∃t:Nat,a=t:=⟨a.toNat,U0⟩;have dn:t<k:=U0;have ax:t<ds.length:=U0;obtain⟨b5,o5,cp,e5,dw,Q,ac⟩:=(HA.out.keep M.out aa.out.2.1).at_ ax;have b7:ds[t]?=some (ds[t]'ax):=List.getElem?_eq_getElem ax;generalize ds[t]'ax=p at *;injection e5 with e5;injection e5 with e6 e7;subst e6;subst e7;have b1:=(M.out.stc ac).len;have di:=(M.out.stc ac).one;have c6:=zH Q;obtain⟨x0,x1,x2,x3,x4,x5,x6,x7,x8,x9,l,m,n,r,x,y,C,D,E,H,I,J,K,rfl⟩:=cells23 b1;obtain⟨v',w4,al,bz,a5,aq⟩:=ao.out.append M.out a4 (by have:=ae.out;omega) (M.out.more ac (Nat.le_trans ag.out.2.1.size (Nat.le_refl _))) (o:=.cells #[x0,x1,x2,x3,x4,x5,x6,x7,x8,x9,l,m,n,r,x,y,C,D,E,H,I,J,K] 40) rfl;obtain⟨da,db,rfl,_⟩:=aq.form;have a0:(ps++[p]).length=ps.length+1:=U2;rw[a0] at al aq;clear a0;have br:=zH al;have c9:=zH (aa.out.low bz de a5);have co:=zH aq;have bn:Hid (∀(i:Nat)(q:StD),(ps++[p])[i]?=some q->∃a:Nat,s.frm[i]?=some (a:Int)/\a<k/\ds[a]?=some q):=fun i q hq=>by
     by_cases hi:i<ps.length
     . rw[List.getElem?_append_left hi] at hq;exact ap.out i q hq
     . (have b3:i=ps.length:=by have:=(List.getElem?_eq_some_iff.1 hq).1;simp at this;omega);(have dj:q=p:=by rw[b3] at hq;simpa using hq.symm);subst dj;rw[b3,ae.out];exact⟨t,a6.out,dn,b7⟩
    have dl:=Nat.le_trans a4 a5;have j0:(0:Int)<=(t:Int):=U0;have j1:(t:Int)<(ds.length:Int):=U0;have j2:¬(k:Int)<=(t:Int):=U0;have j3:¬(t:Int)<0:=U0;clear Q al bz b7 b1 di ac aq a5
    go_wp2_with (first
     |(refine wpList_load_mid rfl 40 (.tmp 80) rfl b (o+t*23) rfl [x0,x1,x2,x3,x4,x5,x6,x7,x8,x9,l,m,n,r,x,y,C,D,E,H,I,J,K] _ c6.out Tryz.underlying40 rfl stepSize ?_)
     |(at_builtin;refine wpList_appD rfl (.tmp 77) (.tmp 82) 22 rfl rfl rfl br.out ?_))
    go_roundw;case rel=>exact⟨c9.out,dl,j+1,ps++[p],U0,gn,by rw[List.length_append,ae.out];rfl,co.out,bn.out⟩
    case measure=>exact mE
  . (obtain rfl : j = s.frm.length := by omega);have cl:Hid (AccOk ds k s ps):=⟨ae.out,ap.out⟩;(have d0:ps.length<=3:=by have:=ae.out;omega);have bv:Hid (RelGt X w w2 (stCells s V U N S T Z Aq Ar As At cm cg O ca cb f cq cr g ct) ps (zL VA ps.length ck) (Y ((0:Nat):Int)) wr):=⟨aa.out,a4,ao.out,0,U0,rfl,fun i p h=>U0⟩;go_upto_region 22 with fail;go_loopw [87] (fun v87 wr=>RelGt X w w2 (stCells s V U N S T Z Aq Ar As At cm cg O ca cb f cq cr g ct) ps (zL VA ps.length ck) v87 wr) (fun v87 _=>ps.length-(intOf v87).toNat);case atStart=>exact bv.out
    case round =>
     obtain⟨an,aw,hF,j,hj,rfl,b2⟩:=hrel;have aj:=zH an;have ai:=zH hF;have a2:=zH b2;clear an hF b2 aa ao bv;by_cases au:j<ps.length
     . obtain ⟨p,hp⟩ : ∃ p,ps[j]? = some p := ⟨_,List.getElem?_eq_getElem au⟩;obtain ⟨da,db,e',hR⟩:=ai.out.form;obtain ⟨R,e2,du,dv,dy⟩:=hR U0;injection e' with e3 e4 e5;subst e2;subst e3;subst e5;obtain ⟨cp,Q,ac⟩:=ai.out.range hp;have ad:=M.out.stc ac;(have b9:p.ok:=by obtain ⟨a,_,_,ha⟩:=ap.out j p hp;exact HK.out _ (List.mem_of_getElem? ha));have c3:=zH b9;have c4:=zH hp;have bj:=zH (ad.more aw);have be:=zH Q;have az:∀ u∈cp,u.oneCell'=true:=ad.one;obtain ⟨x0,x1,x2,x3,x4,x5,x6,x7,x8,x9,l,m,n,r,x,y,C,D,E,H,I,J,K,rfl⟩:=cells23 ad.len;(have bi:Hid (#[x0,x1,x2,x3,x4,x5,x6,x7,x8,x9,l,m,n,r,x,y,C,D,E,H,I,J,K].all (·.oneCell')=true):=by show _=_;rw [Array.all_eq_true'];exact fun u hu=>az u (by simpa using hu));have ah:Hid (Below wr.heap.size wr (wr.alloc (.cells #[x0,x1,x2,x3,x4,x5,x6,x7,x8,x9,l,m,n,r,x,y,C,D,E,H,I,J,K] 40))):=(Below.refl _ _).alloc (Nat.le_refl _) _;have bm:=zH (bj.out.lift ah.out);have bw:=zH (aj.out.grow ah.out);have a9:=zH (ai.out.grow M.out aw ah.out);have ce:=Nat.le_trans aw ah.out.size;have bg:Hid ((wr.alloc (.cells #[x0,x1,x2,x3,x4,x5,x6,x7,x8,x9,l,m,n,r,x,y,C,D,E,H,I,J,K] 40)).rangeAt wr.heap.size 0 [x0,x1,x2,x3,x4,x5,x6,x7,x8,x9,l,m,n,r,x,y,C,D,E,H,I,J,K]):=range_of_row (heap_alloc_new _ _);have a8:=zH (formed_g p [x0,x1,x2,x3,x4,x5,x6,x7,x8,x9,l,m,n,r,x,y,C,D,E,H,I,J,K] _ bm.out c3.out);have j8:(0:Int)<=(j:Int):=U0;have j9:(j:Int)<(ps.length:Int):=U0;clear ah hp b9 az Q ac ad
       go_upto_region 24 with(first
        |(refine wpList_load_mid rfl 40 (.tmp 89) rfl R (j*23) rfl [x0,x1,x2,x3,x4,x5,x6,x7,x8,x9,l,m,n,r,x,y,C,D,E,H,I,J,K] _ be.out Tryz.underlying40 rfl stepSize ?_)
        |(refine qaH rfl 40 (.tmp 11) (.tmp 90) rfl wr _ #[x0,x1,x2,x3,x4,x5,x6,x7,x8,x9,l,m,n,r,x,y,C,D,E,H,I,J,K] rfl rfl stepSize rfl bi.out ?_))
       generalize (wr.alloc (.cells #[x0,x1,x2,x3,x4,x5,x6,x7,x8,x9,l,m,n,r,x,y,C,D,E,H,I,J,K] 40))=W6 at *;go_wp2_with (refine wpList_load_mid rfl 40 (.tmp 11) rfl wr.heap.size 0 rfl [x0,x1,x2,x3,x4,x5,x6,x7,x8,x9,l,m,n,r,x,y,C,D,E,H,I,J,K] _ bg.out Tryz.underlying40 rfl stepSize ?_);refine a8.out.mono ?_;rintro e w7 ⟨rfl,hb7⟩;have ak:=zH (bw.out.grow hb7);have cw:=zH (a9.out.grow M.out ce hb7);have dm:=Nat.le_trans ce hb7.size;clear hb7 a8 aj be bj bw bm a9 bg ai;by_cases hz:formZ p=0
       . have bd : Hid (∀ (i : Nat) (q : StD),i < j + 1 -> ps[i]? = some q -> formZ q = 0) := fun i q hi hq => by
          by_cases e:i=j
          . subst e;rw[c4.out] at hq;injection hq with hq;rw[<- hq];exact hz
          . exact a2.out i q U0 hq
         rw[hz];clear hz;go_wp2_with fail;go_roundw;case rel=>exact⟨ak.out,dm,cw.out,j+1,U0,gn,bd.out⟩
         case measure=>exact mE
       . have d1:(formZ p != 0)=true:=bne_iff_ne.2 hz;clear hz a2;generalize formZ p=zp at *;go_wp2_with fail;go_ret;exact⟨_,rfl,ak.out.2.1,fun h=>by cases h⟩
     . (obtain rfl : j = ps.length:=by omega);have bo:=zH aj.out.range;(have a3:∀p∈ps,p.ok/\formZ p=0:=fun p hp=>by obtain⟨i,hi,e⟩:=List.mem_iff_getElem.1 hp;(have b6:ps[i]?=some p:=by rw[<- e];exact List.getElem?_eq_getElem hi);obtain⟨a,_,_,ha⟩:=ap.out i p b6;exact⟨HK.out _ (List.mem_of_getElem? ha),a2.out i p hi b6⟩);have c5:Hid (∀p∈ps,formZ p=0):=fun p hp=>(a3 p hp).2;have bc:=zH (ay.out ps _ w2.heap.size wr aj.out.2.1 aw ai.out a3 (by have:=ba.out;have:=ae.out;omega));clear a3;go_wp2_with (refine wpList_load_mid rfl 40 (.tmp 5) rfl w.heap.size 0 rfl (stCells s V U N S T Z Aq Ar As At cm cg O ca cb f cq cr g ct) _ bo.out Tryz.underlying40 rfl stepSize ?_);(with_reducible refine bc.out.mono ?_);rintro e w7 ⟨bb,rfl,hb7,hd⟩;have ak:=zH (aj.out.grow hb7);have HD:=zH hd;clear hb7 hd bc bo;cases bb
       . go_wp2_with fail;go_ret;exact⟨_,rfl,ak.out.2.1,fun h=>by cases h⟩
       . have cz:Hid (∃(s:StD)(ps:List StD),ds[k]?=some s/\AccOk ds k s ps/\formZ s=0/\(∀p∈ps,formZ p=0)/\P s ps):=⟨s,ps,c7.out,cl.out,cn.out,c5.out,HD.out rfl⟩;go_wp2_with fail;go_ret;exact⟨_,rfl,ak.out.2.1,fun _=>cz.out⟩
def RelFl(w:World)(n:Nat)(v3 v4 v5:Value)(wr:World):Prop:=∃(k:Nat)(b1 b2:Bool),k<=n/\v3=.bool b1/\v4=.bool b2/\v5=Y k/\Below w.heap.size w wr
def FlS(w:World)(b ok':Nat)(n:Int)(A:Option Addr)(l c:Nat)(W:World):Prop:=Below w.heap.size w W/\W.cell? (zA b (ok'+4))=some (Y n)/\W.cell? (zA b (ok'+5))=some (zL A l c)
theorem few_c(ds:List StD)(A:Option Addr)(c:Nat)(w:World)(hA:StsAt w w.heap.size A ds)(hk:∀ d∈ds,d.ok)(hl:ds.length<=maxLen):
 zC 6 #[zL A ds.length c] w (FewPost w ds.length):=by
 have D:=zH hA;have u:=zH (rfewD_c ds A c w hA hk);have q:maxLen=9223372036854775807:=rfl;rw[q] at hl;clear hA hk;go_enter Tryz.func6,Tryz.ntmps6;go_wp2_with fail;(with_reducible refine u.out.mono ?_);rintro e w1 ⟨b0,rfl,hb1,hl1⟩;have g:=zH hb1;have m:=zH hl1;clear hb1 u hl1;cases b0
 . go_wp2_with fail;go_ret;exact⟨_,rfl,g.out,fun h=>by cases h⟩
 go_wp2_with fail;go_loopw [3,4,5] (fun v3 v4 v5 wr=>RelFl w ds.length v3 v4 v5 wr) (fun _ _ v5 _=>ds.length-(intOf v5).toNat);case atStart=>exact⟨0,false,false,Nat.zero_le _,rfl,rfl,rfl,g.out⟩
 case round =>
  obtain⟨k,v,x,K,rfl,rfl,rfl,B⟩:=hrel;have l:=zH B;clear B g;by_cases j:k<ds.length
  . (have k0 : (0 : Int) <= (k : Int) := by omega);have k1:(k:Int)<(ds.length:Int):=U0;have L:IntKind.i64.wrap ((k:Int)+1)=(k:Int)+1:=IntWalk.i64_in _ U0;obtain ⟨b,o,I,rfl,J,f,r⟩:=(D.out.keep l.out).at_ j;generalize ds[k]'j=s at *;obtain ⟨P,t,O,M,N,Q,R,Ar,S,At,U,y,T,ca,cb,cp,V,X,H,Z,rfl,_⟩:=r;have y0:wr.cell? (zA b (o+k*23))=some (Y s.rule):=f 0 _ rfl;have E:Hid (FlS w b (o+k*23) s.n t s.gen.length y wr.drew):=⟨l.out.drew,f 4 _ rfl,f 5 _ rfl⟩;clear f;generalize s.gen.length=z at *;generalize s.n=C at *;obtain ⟨e,he⟩:∃ e,IntKind.i64.wrap (C*(z:Int))=e:=⟨_,rfl⟩;cases v;(all_goals (cases x));(all_goals go_upto_region 8 with fail);(all_goals (refine qaD (FlS w b (o+k*23) C t z y) U1 U1 E.out ?_))
    all_goals
     repeat (first
      | (apply qaJ rfl
         . intro W i
           go_simp
           try rfl
         go_simp)
      | (apply qbD rfl
         . intro W i
           obtain⟨_,z4,z5⟩:=i
           go_simp
           try rfl
         go_simp)
      |(apply qbI rfl;go_simp))
     refine qaE ?_
     intro w2 i
     have p:=zH i.1
     clear i
     go_wp2_with fail
     go_roundw
     case rel=>exact⟨k+1,_,_,U0,rfl,rfl,gn,p.out⟩
     case measure=>exact mE
  . (obtain rfl : k = ds.length := by omega);cases v <;> cases x
    all_goals
     go_wp2_with fail
     go_ret
     exact⟨_,rfl,l.out,fun _=>m.out (by first|trivial|rfl)⟩
end Go.Proofs.YtndipkplnkfoeaaGreat
