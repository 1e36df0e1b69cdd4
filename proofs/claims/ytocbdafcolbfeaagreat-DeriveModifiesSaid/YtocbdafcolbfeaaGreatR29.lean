/- Parts of the proof. -/
import Derived.Test.YtocbdafcolbfeaaGreatR27
import Derived.Test.YtocbdafcolbfeaaGreatR28
set_option maxRecDepth 100000
set_option maxHeartbeats 8000000
namespace Go.Proofs.YtocbdafcolbfeaaGreat
open Pln
namespace Al
def bin:Nat->Nat->Nat
 |_,0=>1
 |0,_+1=>0
 |n+1,k+1=>bin n k+bin n (k+1)
theorem bin_zero:∀n,bin n 0=1
 |0=>rfl
 |_+1=>rfl
theorem bin_gt:∀ n k,n<k->bin n k=0
 |_,0,h=>by omega
 |0,k+1,_=>rfl
 |n + 1,k + 1,h=>by
   show bin n k+bin n (k+1)=0
   rw[bin_gt n k U0,bin_gt n (k+1) U0]
theorem bin_self:∀ n,bin n n=1
 |0=>rfl
 |n + 1=>by
   show bin n n+bin n (n+1)=1
   rw[bin_self n,bin_gt n (n+1) U0]
theorem bin_abs:∀ n k,(k+1)*bin (n+1) (k+1)=(n+1)*bin n k
 |0,0=>rfl
 |0,k + 1=>by
   show(k+2)*(bin 0 (k+1)+bin 0 (k+2))=(0+1)*bin 0 (k+1)
   show(k+2)*(0+0)=(0+1)*0
   omega
 |n + 1,0=>by
   have h1:=bin_abs n 0
   rw[bin_zero] at h1
   show(0+1)*(bin (n+1) 0+bin (n+1) (0+1))=(n+1+1)*bin (n+1) 0
   rw[bin_zero]
   generalize bin (n+1) (0+1)=X at *
   omega
 |n + 1,k + 1=>by
   have h1:=bin_abs n (k+1)
   have b:=bin_abs n k
   show(k+1+1)*(bin (n+1) (k+1)+bin (n+1) (k+1+1))=(n+1+1)*bin (n+1) (k+1)
   have c:bin (n+1) (k+1)=bin n k+bin n (k+1):=rfl
   rw[Nat.mul_add,h1,Nat.add_mul (k+1) 1,b,Nat.add_mul (n+1) 1,Nat.one_mul]
   generalize bin (n+1) (k+1)=X at *
   rw[c,Nat.mul_add]
   omega
theorem prime_dvd{p:Nat}(r:∀ d,2<=d->d*d<=p->p % d≠0){i:Nat}(s:0<i)(t:i<p):p ∣ bin p i:=by
 obtain⟨n,rfl⟩:∃n,p=n+1:=⟨p-1,U0⟩;obtain⟨k,rfl⟩:∃k,i=k+1:=⟨i-1,U0⟩;have l:=bin_abs n k;have m:Nat.Coprime (n+1) (k+1):=by
  show Nat.gcd (n+1) (k+1)=1;have b:=Nat.gcd_dvd_left (n+1) (k+1);have h:=Nat.gcd_dvd_right (n+1) (k+1);generalize Nat.gcd (n+1) (k+1)=g at *;have q:=Nat.le_of_dvd U0 h;have o:=Nat.pos_of_dvd_of_pos b U0;obtain⟨e,c⟩:=b;refine Classical.byContradiction fun hne=>?_;have f:2<=e:=by
   rcases e with _|_|e
   . omega
   . omega
   . omega
  by_cases j:g<=e
  . exact r g U0 (by rw[c];exact Nat.mul_le_mul_left _ j) (by rw[c];exact Nat.mul_mod_right _ _)
  . exact r e f (by rw[c];exact Nat.mul_le_mul_right _ U0) (by rw[c,Nat.mul_comm];exact Nat.mul_mod_right _ _)
 refine m.dvd_of_dvd_mul_left ?_;rw[l];exact Nat.dvd_mul_right _ _
section
variable {q:Nat} {O:Ops} {h:Fld q O}
theorem cst_one:cst h 1=1:=(El.fd (h:=h)).addZ 1
theorem pwr_binom(x:El q O h):∀ n,pwr (x+1) n=sm (n+1) fun i=>cst h (bin n i)*pwr x i
 |0=>by
   have H:=El.fd (h:=h)
   show 1=0+cst h 1*1
   rw[cst_one,H.addZ,H.umul]
 | n + 1 => by
   have H:=El.fd (h:=h)
   show pwr (x+1) n*(x+1)=_
   rw[pwr_binom x n,H.dist,H.umul,qdH (n+1)]
   have b:sm (n+1) (fun i=>cst h (bin (n+1) (i+1))*pwr x (i+1))=sm (n+1) (fun i=>cst h (bin n (i+1))*pwr x (i+1))+x*sm (n+1) fun i=>cst h (bin n i)*pwr x i:=by
    rw[<- H.sm_lin]
    refine H.sm_congr fun i _=>?_
    show cst h (bin n i+bin n (i+1))*(pwr x i*x)=cst h (bin n (i+1))*(pwr x i*x)+x*(cst h (bin n i)*pwr x i)
    rw[qdO,H.rdist,H.addC,H.mulC x,H.mulA]
   have c:sm (n+1) (fun i=>cst h (bin n i)*pwr x i)=cst h (bin n 0)*pwr x 0+sm (n+1) fun i=>cst h (bin n (i+1))*pwr x (i+1):=by
    rw[<- qdH (n+1) (f:=fun i=>cst h (bin n i)*pwr x i)]
    show _=sm (n+1) (fun i=>cst h (bin n i)*pwr x i)+cst h (bin n (n+1))*pwr x (n+1)
    rw[bin_gt n (n+1) U0]
    show _=_+0*_
    rw[H.zmul,H.zadd]
   have d:bin (n+1) 0=bin n 0:=by rw[bin_zero,bin_zero]
   rw[b,<- H.addA,d,<- c,H.addC,H.mulC]
theorem pwr_zero{n:Nat}(b:0<n):pwr (0:El q O h) n=0:=by obtain⟨k,rfl⟩:∃k,n=k+1:=⟨n-1,U0⟩;exact(El.fd (h:=h)).mulZ _
theorem pwr_add_p{p:Nat}(C:Chr q O h p)(m:∀d,2<=d->d*d<=p->p % d≠0)(x y:El q O h):pwr (x+y) p=pwr x p+pwr y p:=by
 have H:=El.fd (h:=h);have l:=C.p1;have g:∀z:El q O h,pwr (z+1) p=pwr z p+1:=fun z=>by
  rw[pwr_binom z p];obtain⟨k,rfl⟩:∃k,p=k+1:=⟨p-1,U0⟩;show sm (k+1) (fun i=>cst h (bin (k+1) i)*pwr z i)+cst h (bin (k+1) (k+1))*pwr z (k+1)=_;rw[bin_self,cst_one,H.mulU,H.addC];congr 1;rw[H.sm_one (i:=0) U0 fun j hj hne=>?_]
  . show cst h (bin (k+1) 0)*1=1;rw[bin_zero,cst_one,H.mulU]
  . obtain⟨t,b⟩:=prime_dvd m (i:=j) U0 U0;show cst h (bin (k+1) j)*pwr z j=0;rw[b,cst_mul,C.zero,H.zmul,H.zmul]
 by_cases c:y=0
 . rw[c,H.zadd,pwr_zero U0,H.zadd]
 . obtain⟨t,b⟩:=H.inv y c;(have e:x+y=(x*t+1)*y:=by rw[H.rdist,H.mulU,H.mulA,H.mulC t,b,H.umul]);(have f:x=x*t*y:=by rw[H.mulA,H.mulC t,b,H.umul]);rw[e,H.pwr_prod,g,H.rdist,H.mulU,<- H.pwr_prod,<- f]
def Fr(p k:Nat)(x:El q O h):El q O h:=pwr x (p^k)
theorem qcC(p:Nat)(x:El q O h):Fr p 0 x=x:=by show 1*x=x;exact(El.fd (h:=h)).mulU x
theorem qfR(p i j:Nat)(x:El q O h):Fr p i (Fr p j x)=Fr p (j+i) x:=by unfold Fr;rw[Nat.pow_add,(El.fd (h:=h)).pwr_mul]
theorem fr_mul(p k:Nat)(x y:El q O h):Fr p k (x*y)=Fr p k x*Fr p k y:=(El.fd (h:=h)).pwr_prod x y _
theorem fr_add{p:Nat}(C:Chr q O h p)(c:∀ d,2<=d->d*d<=p->p % d≠0):∀ (k:Nat)(x y:El q O h),Fr p k (x+y)=Fr p k x+Fr p k y
 |0,x,y=>by rw[qcC,qcC,qcC]
 | k + 1,x,y => by
   have e:∀z:El q O h,Fr p (k+1) z=Fr p 1 (Fr p k z):=fun z=>(qfR p 1 k z).symm
   rw[e,e,e,fr_add C c k]
   have b:∀z:El q O h,Fr p 1 z=pwr z p:=fun z=>by
    unfold Fr
    rw[Nat.pow_one]
   rw[b,b,b]
   exact pwr_add_p C c _ _
theorem fr_zero{p:Nat}(b:0<p)(k:Nat):Fr p k (0:El q O h)=0:=pwr_zero (Nat.pow_pos b)
theorem fr_sm{p:Nat}(C:Chr q O h p)(b:∀ d,2<=d->d*d<=p->p % d≠0)(k:Nat)(f:Nat->El q O h):∀ n,Fr p k (sm n f)=sm n fun j=>Fr p k (f j)
 |0=>fr_zero (by have:=C.p1;omega) k
 |n + 1=>by
   show Fr p k (sm n f+f n)=sm n (fun j=>Fr p k (f j))+Fr p k (f n)
   rw[fr_add C b,fr_sm C b k f n]
end
theorem nodup_lt:∀ (n:Nat)(l:LN),l.Nodup->(∀ x∈l,x<n)->l.length<=n
 |0,[],_,_=>Nat.le_refl _
 |0,x :: _,_,h=>absurd (h x List.mem_cons_self) U0
 | n + 1,l,hn,h => by
   have h1:=nodup_lt n (l.erase n) (hn.erase n) fun x hx=>by
    obtain⟨d,c⟩:=(hn.mem_erase_iff).1 hx
    have:=h x c
    omega
   by_cases b:n∈l
   . rw[List.length_erase_of_mem b] at h1
     omega
   . rw[List.erase_of_not_mem b] at h1
     omega
section
variable {p m m1:Nat} {l l1 md md1:LN} {hF:FT p m md l} {hF1:FT p m1 md1 l1} {r:El (p^m) (opsT p m l) (fld_of hF)}
theorem fermat(hF:FT p m md l)(z:El (p^m) (opsT p m l) (fld_of hF)):Fr p m z=z:=by
 have H:=El.fd (h:=fld_of hF);have g:=(fld_of hF).q1;by_cases c:z=0
 . rw[c];exact fr_zero (by have:=hF.small.p1;omega) m
 . obtain⟨G,f,_,d,_⟩:=log_of hF (x:=z.n) z.lt (fun e=>c (El.eq e));have i:=El.eq (El.of_n z.lt);rw[i] at d;unfold Fr;rw[d];generalize (logL l (p^m)).getD z.n 0=e;(have b:∀k,k=p^m-1+1->pwr G k=G:=by rintro _ rfl;show pwr G (p^m-1)*G=G;rw[f,H.mulU]);rw[<- H.pwr_mul,Nat.mul_comm,H.pwr_mul,b _ U0]
theorem phi_inj(f:Emb hF hF1 r){x y:El (p^m1) (opsT p m1 l1) (fld_of hF1)}(e:phi hF hF1 r x=phi hF hF1 r y):x=y:=by
 have H:=El.fd (h:=fld_of hF);have b:=El.fd (h:=fld_of hF1);refine Classical.byContradiction fun hne=>?_;have d:x+-y≠0:=fun h=>hne (b.subz h);refine phi_ne f d ?_;have c:phi hF hF1 r y+phi hF hF1 r (-y)=0:=by rw[<- phi_add,b.addN,phi_zero]
 rw[phi_add,e,c]
theorem fixed_im(S:Emb hF hF1 r){y:El (p ^ m) (opsT p m l) (fld_of hF)}(T:Fr p m1 y=y):∃ a,phi hF hF1 r a=y:=by
 have H:=El.fd (h:=fld_of hF);have O:=El.fd (h:=fld_of hF1);have M:=(fld_of hF).q1;have N:=(fld_of hF1).q1;refine Classical.byContradiction fun hno=>?_;have o:((List.range (p^m1)).map fun x=>phi hF hF1 r (El.of (fld_of hF1) x)).Nodup:=by rw[List.nodup_iff_pairwise_ne,List.pairwise_map];refine List.Pairwise.imp_of_mem ?_ List.nodup_range;intro a b J K d e;exact d (El.of_inj (h:=fld_of hF1) (List.mem_range.1 J) (List.mem_range.1 K) (phi_inj S e))
 have q:y∉(List.range (p^m1)).map fun x=>phi hF hF1 r (El.of (fld_of hF1) x):=fun hm=>by obtain⟨a,_,e⟩:=List.mem_map.1 hm;exact hno ⟨_,e⟩
 have D:=List.nodup_cons.2 ⟨q,o⟩;have i:(y :: (List.range (p ^ m1)).map fun x=>phi hF hF1 r (El.of (fld_of hF1) x)).length=p ^ m1+1:=U2;have f:∀ z∈y :: (List.range (p ^ m1)).map fun x=>phi hF hF1 r (El.of (fld_of hF1) x),Fr p m1 z=z:=fun z hz=>by
  rcases List.mem_cons.1 hz with rfl|hz
  . exact T
  . obtain ⟨a,_,rfl⟩ := List.mem_map.1 hz;generalize El.of (fld_of hF1) a=t;have s:∀ n,phi hF hF1 r (pwr t n)=pwr (phi hF hF1 r t) n:=by
     intro n;induction n with
     |zero=>exact im_one hF1.small.m1
     |succ n ih=>show phi hF hF1 r (pwr t n*t)=pwr (phi hF hF1 r t) n*phi hF hF1 r t;rw[phi_mul S,ih]
    have c:=fermat hF1 t;unfold Fr at c ⊢;rw[<- s,c]
 generalize (y :: (List.range (p^m1)).map fun x=>phi hF hF1 r (El.of (fld_of hF1) x))=Z at *;by_cases L:p^m1<p^m
 . obtain ⟨v,P,B⟩ := ev_mono H (p ^ m1) (p ^ m1 + 1) U0;obtain ⟨A,Q,C⟩:=ev_mono H 1 (p ^ m1+1) U0
   have g:=H.roots (List.zipWith (fun a b=>a+-1*b) v A) Z D (fun z hz=>by
    rw[H.ev_lin (-1) v A U0,B,C]
    have:=f z hz
    unfold Fr at this
    rw[this,H.negm,H.mulU]
    show z+-(1*z)=0
    rw[H.mulU,H.addN]) (by rw[List.length_zipWith];omega)
   obtain⟨G,E,j,_,_⟩:=log_of hF (x:=1) M U0;have c:=g G;rw[H.ev_lin (-1) v A U0,B,C,H.negm,H.mulU] at c;have k:=H.subz c;have R:=j;by_cases u:p^m1<p^m-1
   . have:=j (p^m1) 1 u U0 k;omega
   . (have e:p^m1=p^m-1:=by omega);rw[e,E] at k;have I:pwr G 0=pwr G 1:=k;have:=j 0 1 U0 U0 I;omega
 . have c := nodup_lt (p ^ m) (Z.map El.n) (by
    rw[List.nodup_iff_pairwise_ne,List.pairwise_map]
    exact List.Pairwise.imp (fun d e=>d (El.eq e)) D) (fun x hx=>by
     obtain⟨z,_,rfl⟩:=List.mem_map.1 hx
     exact z.lt)
   rw[List.length_map,i] at c;omega
end
end Al
namespace Al
section
variable {q:Nat} {O:Ops} {h:Fld q O}
theorem sm_sub(n:Nat)(f c d:Nat->El q O h):sm n (fun j=>f j*(c j+-d j))=sm n (fun j=>f j*c j)+-sm n fun j=>f j*d j:=by
 have H:=El.fd (h:=h);have e:sm n (fun j=>f j*(c j+-d j))=sm n (fun j=>f j*c j+-1*(f j*d j)):=H.sm_congr fun j _=>by rw[H.dist,H.mneg,H.negm,H.mulU]
 rw[e,H.sm_lin,H.negm,H.mulU]
theorem fr_fix{p m1:Nat}{a:El q O h}(b:Fr p m1 a=a):∀i,Fr p (m1*i) a=a
 |0=>by rw[Nat.mul_zero,qcC]
 |i+1=>by rw[Nat.mul_succ,<- qfR,fr_fix b i,b]
end
section
variable {p m m1:Nat} {l l1 md md1:LN} {hF:FT p m md l} {hF1:FT p m1 md1 l1} {r:El (p^m) (opsT p m l) (fld_of hF)}
theorem phi_fix(d:Emb hF hF1 r)(t:El (p^m1) (opsT p m1 l1) (fld_of hF1)):Fr p m1 (phi hF hF1 r t)=phi hF hF1 r t:=by
 have b:∀n,phi hF hF1 r (pwr t n)=pwr (phi hF hF1 r t) n:=by
  intro n;induction n with
  |zero=>exact im_one hF1.small.m1
  |succ n ih=>show phi hF hF1 r (pwr t n*t)=pwr (phi hF hF1 r t) n*phi hF hF1 r t;rw[phi_mul d,ih]
 have c:=fermat hF1 t;unfold Fr at c ⊢;rw[<- b,c]
end
section
variable {q q1:Nat} {O O1:Ops} {h:Fld q O} {h1:Fld q1 O1}
structure Cat (emb:El q1 O1 h1->El q O h) (ni:Nat) (I:LL) (φ:El q O h->Nat->El q1 O1 h1):Prop where
 lin:∀x y a j,j<ni->φ (x+emb a*y) j=φ x j+a*φ y j
 zero:∀j,j<ni->φ 0 j=0
 inI:∀x,InC h1 ni I (φ x)
 inj:∀x,(∀j,j<ni->φ x j=0)->x=0
end
end Al
end Go.Proofs.YtocbdafcolbfeaaGreat
namespace Go.Proofs.YtocbdafcolbfeaaGreat
open Go.RowKit Pln Go.Proofs.Tryz
def inZ(q:Nat)(x:Int):Nat:=if 0<=x/\x<(q:Int) then x.toNat else 0
theorem inZ_lt{q:Nat}(b:0<q)(x:Int):inZ q x<q:=by unfold inZ;split<;>omega
theorem inZ_nat{q x:Nat}(h:x<q):inZ q (x:Int)=x:=by unfold inZ;rw[if_pos ⟨U0,U0⟩];omega
theorem inOut_c(x:Int)(c p m B:Nat)(l g:LN)(w:Wo)(d:GFAt w B c p m l g)(f:¬(0<=x/\x<((p^m:Nat):Int))):
 zC 158 (Ct c x) w fun e w'=>e=.returned (Y 0)/\w=w':=by
 have b:zK (zC 196 (Ct c x) w fun e w'=>e=.returned (.bool false)/\w=w'):=by have:=is_c x c p m B l g w d;rw[show(decide (0<=x) && decide (x<((p^m:Nat):Int)))=false by rw[<- Bool.decide_and,decide_eq_false f]] at this;exact this
 clear d f;go_enter func158,ntmps158;go_wp2_with (go_at_call 196;refine b.o.mono ?_;rintro e w' ⟨rfl,rfl⟩);go_ret;exact⟨rfl,rfl⟩
theorem addOut_c(x:Int)(q p m B:Nat)(l u:LN)(w:Wo)(t:Small p m)(r:GFAt w B q p m l u)(s:¬ (0<=x/\x<((p ^ m:Nat):Int))):
 zC 143 #[zP q,Y x,Y 0] w (Quiet (Y 0) w):=by
 have b:=zH (inOut_c x q p m B l _ w r s);have c:zK (zC 158 (D4 q) w fun e w'=>e=.returned (Y 0)/\w=w'):=by
  by_cases d:0<p^m
  . exact in_c 0 q p m B l _ w r d
  . exact inOut_c 0 q p m B l _ w r U0
 obtain⟨j,k,g,h,n⟩:=t;obtain⟨_,_,_,_,_,_,_,d,_,_,_,_,_⟩:=r.cells;clear r s;by_cases i:p=2
 . subst i;go_enter func143,ntmps143;go_wp2_with (first|(go_at_call 158;go_fit b.o;rintro e w' ⟨rfl,rfl⟩)|(go_at_call 158;go_fit c.o;rintro e w' ⟨rfl,rfl⟩));go_ret;exact⟨rfl,0,rfl⟩
 . (have f : ((p : Int) == 2) = false:=by simp;omega);go_enter func143,ntmps143;go_wp2_with (first|(go_at_call 158;go_fit b.o;rintro e w' ⟨rfl,rfl⟩)|(go_at_call 158;go_fit c.o;rintro e w' ⟨rfl,rfl⟩));clear d f;go_loopg [1,2,7,8] 0 (fun _ v1 v2 v7 v8 wr=>v1=Y 0/\v2=Y 0/\v7=Y 0/\v8=Y 1/\wr=w);case atStart=>exact⟨rfl,rfl,rfl,rfl,rfl⟩
   case round=>obtain⟨rfl,rfl,rfl,rfl,rfl⟩:=hrel;go_wp2;go_ret;exact⟨rfl,0,rfl⟩
theorem addI_c(x:Int)(g p m B:Nat)(md l:LN)(w:Wo)(hF:FT p m md l)(i:GFAt w B g p m l (logL l (p^m))):
 zC 143 #[zP g,Y x,Y 0] w (Quiet (Y ((inZ (p^m) x:Nat):Int)) w):=by
 have f:=(Al.fld_of hF).q1;by_cases c:0<=x/\x<((p^m:Nat):Int)
 . (have b:x.toNat<p^m:=by omega);(have e:inZ (p^m) x=x.toNat:=by unfold inZ;rw[if_pos c]);(have d:(opsT p m l).add x.toNat 0=x.toNat:=by have H:=Al.El.fd (h:=Al.fld_of hF);refine Al.El.of_inj (h:=Al.fld_of hF) ((Al.fld_of hF).addL _ _ b U0) b ?_;rw[Al.El.of_add b U0,Al.El.of_zero,H.zadd]);have:=add_c x.toNat 0 g p m B l _ w hF.small i b U0;rw[show addD p m x.toNat 0=x.toNat from d,show((x.toNat:Nat):Int)=x by omega] at this;rw[e,show((x.toNat:Nat):Int)=x by omega];exact this
 . (have e:inZ (p^m) x=0:=by unfold inZ;rw[if_neg c]);rw[e];exact addOut_c x g p m B l _ w hF.small i c
def itN(F:Nat->Nat):Nat->Nat->Nat
 |0,x=>x
 |k+1,x=>F (itN F k x)
theorem itN_lt{F:Nat->Nat}{q:Nat}(hF:∀x,x<q->F x<q){x:Nat}(b:x<q):∀k,itN F k x<q
 |0=>b
 |k+1=>hF _ (itN_lt hF b k)
def frN(p m:Nat)(l:LN)(x:Nat):Nat:=powT l (logL l (p^m)) (p^m) x p
section
open Al
variable {p m:Nat} {md l:LN}
theorem of_frN(hF:FT p m md l){x:Nat}(f:x<p ^ m):frN p m l x<p ^ m/\El.of (fld_of hF) (frN p m l x)=Fr p 1 (El.of (fld_of hF) x):=by
 have H:=El.fd (h:=fld_of hF);have d:=(fld_of hF).q1;have c:=hF.small.p1;unfold frN;by_cases b:x=0
 . subst b;(have e:powT l (logL l (p^m)) (p^m) 0 p=0:=by unfold powT;rw[if_neg U0,if_pos rfl]);rw[e,El.of_zero,fr_zero U0];exact⟨U0,rfl⟩
 . have e:=of_powT hF f b p;refine⟨?_,?_⟩
   . unfold powT;rw[if_neg U0,if_neg b];exact getD_ok hF.tab.lt U0 _
   . rw[e];unfold Fr;rw[Nat.pow_one]
theorem of_itN(hF:FT p m md l){x:Nat}(d:x<p ^ m):∀ k,itN (frN p m l) k x<p ^ m/\El.of (fld_of hF) (itN (frN p m l) k x)=Fr p k (El.of (fld_of hF) x)
 |0=>⟨d,by rw[qcC];rfl⟩
 |k + 1=>by
   obtain⟨h1,h2⟩:=of_itN hF d k
   obtain⟨b,c⟩:=of_frN hF h1
   refine⟨b,?_⟩
   show El.of (fld_of hF) (frN p m l (itN (frN p m l) k x))=_
   rw[c,h2,qfR]
theorem of_frD(hF:FT p m md l){d:Nat}(_:1<=d)(f:d<=m){x:Nat}(b:x<p^m):itN (frN p m l) (d % m) x<p^m/\El.of (fld_of hF) (itN (frN p m l) (d % m) x)=Fr p d (El.of (fld_of hF) x):=by
 by_cases e:d=m
 . subst e;rw[Nat.mod_self,fermat hF];exact⟨b,rfl⟩
 . rw[Nat.mod_eq_of_lt U0];exact of_itN hF b d
theorem qeX(hF:FT p m md l){d:Nat}(f:1<=d)(g:d<=m){x:Nat}(h:x<p ^ m):∀ i,itN (itN (frN p m l) (d % m)) i x<p ^ m/\El.of (fld_of hF) (itN (itN (frN p m l) (d % m)) i x)=Fr p (d*i) (El.of (fld_of hF) x)
 |0=>⟨h,by rw[Nat.mul_zero,qcC];rfl⟩
 |i + 1=>by
   obtain⟨h3,h4⟩:=qeX hF f g h i
   obtain⟨b,c⟩:=of_frD hF f g h3
   refine⟨b,?_⟩
   show El.of (fld_of hF) (itN (frN p m l) (d % m) (itN (itN (frN p m l) (d % m)) i x))=_
   rw[c,h4,qfR,Nat.mul_succ]
end
def RelFr(w:Wo)(F:Nat->Nat)(x e:Nat)(v1 v21:Value)(wr:Wo):Prop:=∃t:Nat,t<=e/\v21=Y (t:Int)/\v1=Y ((itN F t x:Nat):Int)/\zB w wr
theorem qfS(x d R B p m:Nat)(mod:LI)(md l:LN)(w:Wo)(hF:FT p m md l)(S:GFM w B R p m mod l (logL l (p ^ m)))(T:B<=w.heap.size)(U:mod.length<=1000000)(V:x<p ^ m)(_:d<=m):
 zC 190 (Cf R x d) w fun e w'=>e=.returned (Y ((itN (frN p m l) (d % m) x:Nat):Int))/\zB w w':=by
 have u:=zH (prime_c R B p m mod l _ w S T U);have J:=hF.small.m1;have K:=hF.small.m2;have L:p<=256:=by have:=hF.small.q;have:p^1<=p^m:=Nat.pow_le_pow_right (by have:=hF.small.p1;omega) U0;rw[Nat.pow_one] at this;omega
 have r:zK (∀(W:Wo)(y:Nat),zB w W->y<p^m->zC 105 (Cf R y p) W (Quiet (.tuple (D7 ((frN p m l y:Nat):Int))) W)):=fun W y hW f=>pow_c y p R p m B md l W hF (S.gf.keep (hW.mono T)) f U0;have k:zK (∀(W:Wo)(y:Nat),zB w W->y<p^m->zC 143 #[zP R,Y (y:Int),Y 0] W (Quiet (Y (y:Int)) W)):=fun W y hW f=>by have:=addI_c (y:Int) R p m B md l W hF (S.gf.keep (hW.mono T));rw[inZ_nat f] at this;exact this
 have n:=zH<|fun t=>(of_itN hF V t).1
 have h:Int.tmod (d:Int) (m:Int)=((d % m:Nat):Int):=qaY _ _;have i:Int.tmod (((d % m:Nat):Int)+(m:Int)) (m:Int)=((d % m:Nat):Int):=by have:=qaY (d % m+m) m;rw[Nat.add_mod_right,Nat.mod_mod,Int.natCast_add] at this;exact this
 have O:d % m<m:=Nat.mod_lt _ U0;clear S hF V;generalize frN p m l=F at *;generalize p^m=q at *;generalize d % m=e at *;have j:IntKind.i64.wrap ((e:Int)+(m:Int))=(e:Int)+(m:Int):=IntWalk.i64_in _ U0;have I:¬(m:Int)=0:=U0;have A:=zH h;have C:=zH i;have D:=zH j;clear h i j;go_enter func190,ntmps190;go_wp2_with fail;go_fit u.o;rintro N Q ⟨rfl,hb⟩;have s:=zH hb;clear hb u;have h:=A.out;have i:=C.out;have j:=D.out;go_wp2_with fail;clear h i j;go_loopw [1,21] (fun v1 v21 wr=>RelFr w F x e v1 v21 wr) (fun _ v21 _=>e-(intOf v21).toNat);case atStart=>exact⟨0,U0,rfl,rfl,s.o⟩
 case round =>
  obtain⟨t,P,rfl,rfl,g⟩:=hrel;have c:=zH g;have b:=n.o t;clear g s;by_cases H:t<e
  . have v : zK (F (itN F t x) = itN F (t + 1) x):=rfl;generalize itN F t x=y at *;go_wp2_with fail;(with_reducible refine(r.o wr y c.o b).mono ?_);rintro E M ⟨rfl,n2,rfl⟩;go_wp2;go_roundw;case rel=>exact⟨t+1,U0,gn,by rw[v.o],qaB c.o n2⟩
    case measure=>simp[intOf];omega
  . (obtain rfl:t=e:=by omega);obtain⟨y,f⟩:∃y,y=itN F t x:=⟨_,rfl⟩;rw[<- f] at b ⊢;have z:=zH f;clear f;go_wp2_with fail;(with_reducible refine(k.o wr y c.o b).mono ?_);rintro E M ⟨rfl,n2,rfl⟩;go_wp2;go_ret;exact⟨by rw[<- z.o];rfl,qaB c.o n2⟩
def eachL(G:Nat->Nat)(n x:Nat):LN:=(List.range n).map fun i=>itN G i x
def RelEa(w:Wo)(G:Nat->Nat)(x n g:Nat)(v10 v26:Value)(wr:Wo):Prop:=∃k:Nat,k<=n/\v26=Y (k:Int)/\v10=Y ((itN G k x:Nat):Int)/\Row wr w.heap.size g n (nz (scK (fun i=>itN G i x) (List.range n) k))/\zB w wr
theorem each_c(x:Int)(d gb B p m:Nat)(mod:LI)(md l:LN)(w:Wo)(hF:FT p m md l)(hG:GFM w B gb p m mod l (logL l (p ^ m)))(hB:B<=w.heap.size)(ad:mod.length<=1000000)(ae:1<=d)(hd:d<=m):
 zC 224 (Cf gb x d) w fun e w'=>(∃g,e=.returned (zS g (m / d:Nat) (m / d:Nat))/\Row w' w.heap.size g (m / d) (nz (eachL (itN (frN p m l) (d % m)) (m / d) (inZ (p^m) x))))/\zB w w':=by
 have X:=zH (prime_c gb B p m mod l _ w hG hB ad);have ab:=hF.small.m2;have ac:=(Al.fld_of hF).q1;have M:inZ (p^m) x<p^m:=inZ_lt U0 x;have S:zK (∀(W:Wo)(y:Nat),zB w W->y<p^m->zC 190 (Cf gb y d) W fun e w'=>e=.returned (Y ((itN (frN p m l) (d % m) y:Nat):Int))/\zB W w'):=fun W y hW hy=>qfS y d gb B p m mod md l W hF (hG.keep (hW.mono hB)) (Nat.le_trans hB hW.size) ad hy hd;have D:zK (∀(W:Wo),zB w W->zC 143 #[zP gb,Y x,Y 0] W (Quiet (Y ((inZ (p^m) x:Nat):Int)) W)):=fun W hW=>addI_c x gb p m B md l W hF (hG.gf.keep (hW.mono hB));have T:=zH<|fun t=>(qeX hF ae hd M t).1
 have O:Int.tdiv (m:Int) (d:Int)=((m / d:Nat):Int):=rfl;have hn:m / d<=m:=Nat.div_le_self _ _;obtain⟨zz,r,c⟩:=makeN (m / d) U0;have f:=zH c;have aa:¬(d:Int)=0:=U0;clear hG hF M c;generalize inZ (p^m) x=h at *;generalize itN (frN p m l) (d % m)=G at *;generalize p^m=q at *;generalize m / d=n at *;have E:=zH r;have Z:=zH O;clear r O;go_enter func224,ntmps224;go_wp2_with fail;go_fit X.o;rintro e1 P ⟨rfl,hb⟩;have N:=zH hb;have r:=E.o;have O:=Z.out;go_wp2_with fail;have u:zK (zB w (P.alloc (.cells zz 3))):=N.o.alloc N.o.size _;have A:=zH (f.o P w.heap.size N.o.size);clear r O hb N X E Z f;generalize P.heap.size=g at *;generalize P.alloc (.cells zz 3)=Q at *;(with_reducible refine(D.o Q u.o).mono ?_);rintro e2 w3 ⟨rfl,n3,rfl⟩
 have s:zK (RelEa w G h n g (Y (h:Int)) (zN 0) (Q.drewN n3)):=⟨0,U0,rfl,rfl,by
  have:scK (fun i=>itN G i h) (List.range n) 0=List.replicate n 0:=by simp[scK]
  rw[this]
  exact A.o.below (qaB (Below.refl (Q.heap.size) _) n3) A.o.lt.2,qaB u.o n3⟩
 clear D u A;generalize Q.drewN n3=w4 at *;go_wp2;go_loopw [10,26] (fun v10 v26 wr=>RelEa w G h n g v10 v26 wr) (fun _ v26 _=>n-(intOf v26).toNat);case atStart=>exact s.o
 case round =>
  obtain⟨k,hk,rfl,rfl,c,I⟩:=hrel;have b:=zH c;have z:=zH I;have L:=T.o k;clear c I s;by_cases K:k<n
  . have HN : zK (G (itN G k h) = itN G (k + 1) h):=rfl;(have J:k<(List.range n).length:=by rw[List.length_range];exact K);have C:=scK_set (fun i=>itN G i h) (List.range n) k J;rw[show(List.range n).getD k 0=k by simp[List.getD,K]] at C;have U:=zH C;have fg:=b.o.frozen k;have c0:=b.o.cell (j:=k) (by rw[qaA,scK_len _ _ _ U0];exact J);generalize itN G k h=y at *;have V:=b.o.lt.1;clear C;go_wp2_with fail;have v:zK (zB w (wr.setCell (zA g k) (Y (y:Int)))):=z.o.setCell (p:=(zA g k)) V _;(have H:zK (Row (wr.setCell (zA g k) (Y (y:Int))) w.heap.size g n (nz (scK (fun i=>itN G i h) (List.range n) (k+1)))):=by show Row _ _ _ _ _;rw[<- U.o,<- qbC];exact Row.set b.o k _);clear b z fg c0;generalize wr.setCell (zA g k) (Y (y:Int))=w5 at *;(with_reducible refine(S.o w5 y v.o L).mono ?_);rintro e6 w6 ⟨rfl,hb6⟩;go_wp2;go_roundw;case rel=>exact⟨k+1,U0,gn,by rw[HN.o],H.o.below hb6 H.o.lt.2,v.o.trans (hb6.mono v.o.size)⟩
    case measure=>simp[intOf];omega
  . (obtain rfl:k=n:=by omega);(have R:zK (scK (fun i=>itN G i h) (List.range k) k=eachL G k h):=by show _=_;unfold scK eachL;rw[List.length_range,Nat.sub_self,List.replicate_zero,List.append_nil,List.take_of_length_le (by rw[List.length_range];omega)]);go_wp2;go_ret;exact⟨⟨g,rfl,by rw[<- R.o];exact b.o⟩,z.o⟩
theorem makeR(n:Nat)(l:n<=100000):∃ zz:Array Value,(∀ W,(Instr.makeSlice 30 (Y (n:Int)) (Y (n:Int))).run prog W=.ok (zS W.heap.size n n) (W.alloc (.cells zz 23)))/\∀ (W:Wo)(B:Nat)(rows:LL),rows.length=n->B<=W.heap.size->PGrid (W.alloc (.cells zz 23)) B W.heap.size rows [] 0:=by
 obtain⟨h,b,d,f,g⟩:=qaF infoInts;refine⟨madeCells (Value.slice none 0 0).cells (n*1),fun W=>?_,fun W B rows c hB=>⟨rfl,Nat.zero_le _,?_,fun i b=>absurd b (Nat.not_lt_zero i),fun i _ b=>absurd b (Nat.not_lt_zero i)⟩⟩
 . have c:=run_make (P:=prog) W 30 23 h _ underlying30 b d .i64 .i64 n n U0 U0 (by rw[g];omega) U0;simp only[Int.toNat_natCast,f] at c;exact c
 . have e : (List.range 0).map (hdr rows []) ++ List.replicate (rows.length - 0) (Value.slice none 0 0) = (madeCells (Value.slice none 0 0).cells (n * 1)).toList := by
    apply List.ext_getElem
    . simp[madeCells,c]
    . intro i j k;simp[madeCells,Value.cells,Nat.mod_one]
   rw[e,c];exact World.ownsRow_lit W _ n hB U4 (size_madeCells _ _)
theorem PGrid.of_heap{w w':Wo}{B R:Nat}{rows:LL}{b:List (Nat × Nat)}{k:Nat}(h:PGrid w B R rows b k)(c:∀k:Nat,w'.heap[k]?=w.heap[k]?):PGrid w' B R rows b k:=
 ⟨h.len,h.le,qeL h.out fun k _ _=>c k,fun i hi=>own_below (h.row i hi) (c _),h.nd⟩
theorem set_swap(w:Wo){p r:Addr}(h:p.block≠r.block)(u v:Value)(k:Nat):((w.setCell p u).setCell r v).heap[k]?=((w.setCell r v).setCell p u).heap[k]?:=by
 by_cases b:k=p.block
 . subst b;rw[Below.heap_setCell _ r _ _ h];simp[World.setCell,Array.getElem?_modify,Ne.symm h]
 . by_cases c : k = r.block
   . subst c;rw[Below.heap_setCell _ p _ _ b];simp[World.setCell,Array.getElem?_modify,h]
   . rw[Below.heap_setCell _ r _ _ c,Below.heap_setCell _ p _ _ b,Below.heap_setCell _ p _ _ b,Below.heap_setCell _ r _ _ c]
theorem sys_put{q n c:Nat}{rows:LL}(k:Grid q n c rows){i j y:Nat}(l:i<n)(m:j<c)(o:y<q):Grid q n c (rows.set i ((rows.getD i []).set j y))/\∀ a b,at2 (rows.set i ((rows.getD i []).set j y)) a b=if a=i/\b=j then y else at2 rows a b:=by
 obtain⟨f,g⟩:=k.row l;refine⟨k.set i ⟨by rw[List.length_set,f],fun x hx=>?_⟩,fun a b=>?_⟩
 . rcases List.mem_or_eq_of_mem_set hx with h|h
   . exact g x h
   . rw[h];exact o
 . rw [Al.at2_set (by rw [k.1];exact l)];by_cases e:a=i
   . subst e;rw[if_pos rfl,qeT _ _ _ _ _ (by rw[f];exact m)];by_cases d:b=j
     . rw[if_pos d,if_pos ⟨rfl,d⟩]
     . rw[if_neg d,if_neg (fun h=>d h.2)];rfl
   . rw[if_neg e,if_neg (fun h=>e h.1)]
def sys0(t:Nat)(right:LN):LL:=right.map fun y=>List.replicate t 0++[y]
theorem sys0_len(t:Nat)(right:LN):(sys0 t right).length=right.length:=by simp[sys0]
theorem sys0_row{t:Nat}{right:LN}{i:Nat}(b:i<right.length):(sys0 t right).getD i []=List.replicate t 0++[right.getD i 0]:=by simp[sys0,List.getD,b]
def SysI(q n t:Nat)(F:Nat->Nat->Nat)(right:LN)(j i:Nat)(rows:LL):Prop:=Grid q n (t+1) rows/\∀a,a<n->at2 rows a t=right.getD a 0/\(∀b,b<j->at2 rows a b=F b a)/\(a<i->at2 rows a j=F j a)
theorem sysI_0{q t:Nat}{F:Nat->Nat->Nat}{right:LN}(f:∀ y∈right,y<q)(d:0<q):SysI q right.length t F right 0 0 (sys0 t right):=by
 refine⟨⟨sys0_len t right,fun r hr'=>?_⟩,fun a ha=>⟨?_,fun b hb=>absurd hb (Nat.not_lt_zero b),fun h=>absurd h (Nat.not_lt_zero a)⟩⟩
 . obtain⟨y,c,rfl⟩:=List.mem_map.1 hr';refine⟨U2,fun x hx=>?_⟩;rcases List.mem_append.1 hx with h|h
   . rw[(List.mem_replicate.1 h).2];exact d
   . rw[List.mem_singleton.1 h];exact f y c
 . unfold at2;rw[sys0_row ha];have:=getD_snoc_eq (List.replicate t 0) (right.getD a 0) 0;rw[List.length_replicate] at this;exact this
theorem sysI_put{q n t:Nat}{F:Nat->Nat->Nat}{right:LN}{j i:Nat}{rows:LL}(h:SysI q n t F right j i rows)(l:i<n)(o:j<t)(m:F j i<q):SysI q n t F right j (i+1) (rows.set i ((rows.getD i []).set j (F j i))):=by
 obtain⟨g,e⟩:=sys_put h.1 l (show j<t+1 by omega) m;refine⟨g,fun a ha=>?_⟩;obtain⟨d,f,k⟩:=h.2 a ha;refine⟨by rw[e,if_neg U0];exact d,fun b hb=>by rw[e,if_neg U0];exact f b hb,fun hai=>?_⟩;rw[e];by_cases c:a=i
 . rw[if_pos ⟨c,rfl⟩,c]
 . rw[if_neg (fun h=>c h.1)];exact k U0
theorem sysI_next{q n t:Nat}{F:Nat->Nat->Nat}{right:LN}{j:Nat}{rows:LL}(h:SysI q n t F right j n rows):SysI q n t F right (j+1) 0 rows:=⟨h.1,fun a ha=>by
 obtain⟨c,d,f⟩:=h.2 a ha
 refine⟨c,fun b hb=>?_,fun h=>absurd h (Nat.not_lt_zero a)⟩
 by_cases e:b=j
 . subst e
   exact f ha
 . exact d b U0⟩
theorem set_last0(t y:Nat):(List.replicate (t+1) 0).set t y=List.replicate t 0++[y]:=by rw[List.replicate_succ',List.set_append_right _ _ U2,List.length_replicate,Nat.sub_self];rfl
theorem qfN(G:Nat->Nat)(n x:Nat){i:Nat}(b:i<n):(eachL G n x).getD i 0=itN G i x:=by simp[eachL,List.getD,b]
theorem qeW(G:Nat->Nat)(n x:Nat):(eachL G n x).length=n:=by simp[eachL]
def RelSy1(w:Wo)(R n t:Nat)(right:LN)(v20:Value)(wr:Wo):Prop:=∃(k:Nat)(bs:List (Nat × Nat)),k<=n/\v20=Y (k:Int)/\PGrid wr w.heap.size R (sys0 t right) bs k/\zB w wr
def RelSy2(w:Wo)(R n t q:Nat)(F:Nat->Nat->Nat)(right:LN)(v44:Value)(wr:Wo):Prop:=∃(j:Nat)(rows:LL)(bs:List (Nat × Nat)),j<=t/\v44=Y (j:Int)/\GridAt wr w.heap.size R n rows bs/\SysI q n t F right j 0 rows/\zB w wr
def RelSy3(w:Wo)(R n t q:Nat)(F:Nat->Nat->Nat)(right:LN)(bs:List (Nat × Nat))(S g:Nat)(ys:LN)(j:Nat)(v54:Value)(wr:Wo):Prop:=∃(i:Nat)(rows:LL),i<=n/\v54=Y (i:Int)/\GridAt wr w.heap.size R n rows bs/\SysI q n t F right j i rows/\Row wr S g n (nz ys)/\zB w wr
def SysPost(w:Wo)(q n t:Nat)(F:Nat->Nat->Nat)(right:LN)(e:Ending)(w':Wo):Prop:=(∃(R:Nat)(rows:LL)(bs:List (Nat × Nat)),e=.returned (zS R n n)/\GridAt w' w.heap.size R n rows bs/\SysI q n t F right t 0 rows)/\zB w w'
theorem system_c(gb p m d:Nat)(mod:LI)(md l:LN)(L:LI)(AL:OA)(cL:Nat)(right:LN)(AR:OA)(cR:Nat)(w:Wo)(hF:FT p m md l)(hG:GFM w w.heap.size gb p m mod l (logL l (p ^ m)))(b0:mod.length<=1000000)(bx:1<=d)(hd:d<=m)(hL:zI w AL L)(b1:L.length<=1000)(hR:zI w AR (nz right))(bz:∀ y∈right,y<p ^ m)(bw:right.length=m / d):
 zC 229 #[zP gb,zL AL L.length cL,Y (d:Int),zL AR right.length cR] w (SysPost w (p^m) right.length L.length (fun j i=>itN (itN (frN p m l) (d % m)) i (inZ (p^m) (L.getD j 0))) right):=by
 have bq:=hF.small.m2;have bu:=(Al.fld_of hF).q1;have bt:right.length<=8:=by have:m / d<=m:=Nat.div_le_self _ _;omega
 have ai:=zH (sysI_0 (t:=L.length) (F:=fun j i=>itN (itN (frN p m l) (d % m)) i (inZ (p^m) (L.getD j 0))) bz U0);have a2:zK (∀j i,itN (itN (frN p m l) (d % m)) i (inZ (p^m) (L.getD j 0))<p^m):=fun j i=>(qeX hF bx hd (inZ_lt U0 _) i).1;have az:zK (∀(W:Wo)(x:Int),zB w W->zC 224 (Cf gb x d) W fun e w'=>(∃g,e=.returned (zS g right.length right.length)/\Row w' W.heap.size g right.length (nz (eachL (itN (frN p m l) (d % m)) right.length (inZ (p^m) x))))/\zB W w'):=fun W x hW=>by rw[bw];exact each_c x d gb w.heap.size p m mod md l W hF (hG.keep hW) hW.size b0 bx hd
 have a4:zK (∀(W:Wo)(k:Nat),zB w W->k<L.length->∃b o,AL=some (zA b o)/\W.cell? (zA b (o+k))=some (Y (L.getD k 0))):=fun W k hW hk=>by obtain⟨b,o,e,_,hc⟩:=(hL.keep hW).at_ hk;exact⟨b,o,e,hc⟩
 have a9:zK (∀(W:Wo)(k:Nat),zB w W->k<right.length->∃b o,AR=some (zA b o)/\W.cell? (zA b (o+k))=some (Y ((right.getD k 0:Nat):Int))):=fun W k hW hk=>by obtain⟨b,o,e,_,hc⟩:=(hR.keep hW).at_ (k:=k) (by rw[qaA];exact hk);rw[qaC] at hc;exact⟨b,o,e,hc⟩
 have Z:=zH (sys0_len L.length right);have bb:zK (∀i,i<right.length->(sys0 L.length right).getD i []=List.replicate L.length 0++[right.getD i 0]):=fun i hi=>sys0_row hi;clear hF hG hL hR bz bw;generalize itN (frN p m l) (d % m)=G at *;generalize p^m=q at *;generalize L.length=t at *;generalize right.length=n at *;obtain⟨zr,bg,ap⟩:=makeR n U0;obtain⟨P,Q,C⟩:=makeN (t+1) U0;have U:∀W:Wo,(Instr.makeSlice 23 (Y ((t:Int)+1)) (Y ((t:Int)+1))).run prog W=.ok (zS W.heap.size (t+1) (t+1)) (W.alloc (.cells P 3)):=fun W=>Q W;have a6:=zH U;have ah:=zH ap;have X:=zH C;have bc:zK (IntKind.i64.wrap ((t:Int)+1)=(t:Int)+1):=IntWalk.i64_in _ U0;clear Q U ap C;go_enter func229,ntmps229;go_wp2_with fail;have af:zK (zB w (w.alloc (.cells zr 23))):=zV.alloc zn _;have ag:=zH (ah.o w w.heap.size (sys0 t right) Z.o zn);obtain⟨R,hR⟩:∃R,R=w.heap.size:=⟨_,rfl⟩;have T:zK (RelSy1 w R n t right (Y ((0:Nat):Int)) (w.alloc (.cells zr 23))):=⟨0,[],U0,rfl,by rw[hR];exact ag.o,af.o⟩;have ba:zK (w.heap.size<=R):=U6;rw[show zS w.heap.size=zS R by rw[hR]];clear hR bg ah ag af;generalize w.alloc (.cells zr 23)=W0 at *;go_loopw [20] (fun v20 wr=>RelSy1 w R n t right v20 wr) (fun v20 _=>n-(intOf v20).toNat);case atStart=>exact T.o
 case round =>
  obtain⟨k,bs,hk,rfl,ae,B⟩:=hrel;have u:=zH ae;have c:=zH B;have aj:=World.ownsRow.lt ae.out R rfl;clear ae B T;by_cases ac:k<n
  . have I := Z.o;have N:zB wr (wr.alloc (.cells P 3)):=zV.alloc zn _;have H:PGrid (wr.alloc (.cells P 3)) w.heap.size R (sys0 t right) bs k:=⟨u.o.len,u.o.le,qeL u.o.out fun _ _ hk=>N.block _ hk,fun i hi=>(u.o.row i hi).below N (u.o.row i hi).lt.2,u.o.nd⟩;have aq:=(World.ownsRow.stored H.out k (zS wr.heap.size (t+1) (t+1))).1;have f4:=World.ownsRow.frozenAt H.out k;(have c4:(wr.alloc (.cells P 3)).cell? (zA R k)=some (zL none 0 0):=by rw [World.ownsRow.cellAt H.out k U0,List.getElem?_append_right U2,List.length_map,List.length_range,Nat.sub_self,List.getElem?_replicate,if_pos U0]);(have ax:zK (((wr.alloc (.cells P 3)).setCell (zA R k) (zS wr.heap.size (t+1) (t+1))).cell? (zA R k)=some (zS wr.heap.size (t+1) (t+1))):=by show _=_;rw [World.ownsRow.cellAt aq k U0,List.getElem?_set,if_pos rfl,if_pos so]);have D:=X.o wr wr.heap.size zn;have al:wr.heap.size≠R:=U0;have E:Row ((wr.alloc (.cells P 3)).setCell (zA R k) (zS wr.heap.size (t+1) (t+1))) wr.heap.size wr.heap.size (t+1) (nz (List.replicate (t+1) 0)):=D.far (p:=(zA R k)) al _;have a3:=zH (E.cell (j:=t) (by rw [qaA,List.length_replicate];omega));have a0:=zH (E.frozen t);have aa:zB w ((wr.alloc (.cells P 3)).setCell (zA R k) (zS wr.heap.size (t+1) (t+1))):=(c.o.trans (N.mono c.o.size)).setCell (p:=(zA R k)) ba.o _;have ar:=zH aa;obtain ⟨br,bv,rfl,ak⟩:=a9.o _ k aa ac;have ay:=zH ak;(have a8:zK (∀ W':Wo,(∀ k':Nat,W'.heap[k']?=(((wr.alloc (.cells P 3)).setCell (zA R k) (zS wr.heap.size (t+1) (t+1))).setCell (zA wr.heap.size t) (Y ((right.getD k 0:Nat):Int))).heap[k']?)->PGrid W' w.heap.size R (sys0 t right) (bs++[(wr.heap.size,t+1)]) (k+1)):=fun W' hW'=>by have e1:=bb.o k ac;(have bh:Row ((wr.alloc (.cells P 3)).setCell (zA wr.heap.size t) (Y ((right.getD k 0:Nat):Int))) wr.heap.size wr.heap.size (t+1) (nz ((sys0 t right).getD k [])):=by rw [e1,<- set_last0,<- qbC];exact Row.set D t _);have hs:=u.o.step (by rw [I];exact ac) (N.setCell (p:=(zA wr.heap.size t)) zn (Y ((right.getD k 0:Nat):Int))) c.o.size bh;rw [show ((sys0 t right).getD k []).length=t+1 by rw [e1];simp] at hs;exact hs.of_heap fun k'=>by rw [hW' k'];exact set_swap _ (p:=(zA R k)) (r:=(zA wr.heap.size t)) (fun e=>al e.symm) _ _ k');(have a5:=zH<|c.o.size);have Q:=a6.o;have bj:=bc.o;clear N H aq D E aa ak u c I;go_upto_region 6 with fail;clear Q bj f4 c4;rw [<- World.setCell_alloc_past (w:=wr) (.cells P 3) R k _ aj.2];generalize wr.heap.size=g at *;generalize (wr.alloc (.cells P 3)).setCell (zA R k) (zS g (t+1) (t+1))=W5 at *;have y1:=ax.o;have y2:=a3.o;have y3:=a0.o;have y4:=ay.o;have k0:(0:Int)<=(k:Int):=U0;have k1:(k:Int)<(n:Int):=U0;have t0:(0:Int)<=(t:Int):=U0;generalize hT:t+1=tt at *;have t1:(t:Int)<(tt:Int):=U0;clear hT;refine qaI 11 (SDrew W5) U1 U1 ⟨1,rfl⟩ ?_;simp only [List.take_succ_cons,List.take_zero,List.drop_succ_cons,List.drop_zero]
    repeat (first
     | (apply qaJ rfl
        . intro W hS
          obtain⟨n',rfl⟩:=hS
          go_simp
          rfl
        go_simp)
     | (apply qaO rfl
        . intro W hS
          go_simp
          exact⟨rfl,rfl⟩
        . intro W hS
          go_simp
          exact hS
        go_simp))
    refine qaE ?_;intro w2 be;obtain⟨n',rfl⟩:=be;go_wp2;go_roundw;case rel=>exact⟨k+1,_,U0,gn,a8.o _ (fun k'=>rfl),(qaB ar.o n').setCell (p:=(zA g t)) a5.o _⟩
    case measure=>simp[intOf];omega
  . (obtain rfl : k = n := by omega);have ad:=u.o;have I:=Z.o;rw [<- I] at ad;have A:=ad.done;rw [I] at A;have J:zK (RelSy2 w R k t q (fun j i=>itN G i (inZ q (L.getD j 0))) right (Y ((0:Nat):Int)) wr):=⟨0,sys0 t right,bs,U0,rfl,A,ai.o,c.o⟩;clear ad A u c ai I aj;go_wp2;go_loopw [44] (fun v44 wr=>RelSy2 w R k t q (fun j i=>itN G i (inZ q (L.getD j 0))) right v44 wr) (fun v44 _=>t-(intOf v44).toNat);case atStart=>exact J.o
    case round =>
     obtain⟨j,rows,v,hj,rfl,A,z,B⟩:=hrel;have s:=zH A;have h:=zH z;have c:=zH B;clear A z B J;by_cases an:j<t
     . obtain ⟨bl,ol,rfl,bf⟩ := a4.o _ j c.o an;have j0:(0:Int)<=(j:Int):=U0;have j1:(j:Int)<(t:Int):=U0;go_wp2_with fail;(with_reducible refine (az.o wr _ c.o).mono ?_);rintro e6 w6 ⟨⟨g,rfl,hrow6⟩,hb6⟩;have K:zK (RelSy3 w R k t q (fun j i=>itN G i (inZ q (L.getD j 0))) right v wr.heap.size g (eachL G k (inZ q (L.getD j 0))) j (Y ((0:Nat):Int)) w6):=⟨0,rows,U0,rfl,s.o.grow hb6,h.o,hrow6,c.o.trans (hb6.mono c.o.size)⟩;(have aw:=zH<|fun i hi=>(s.o.row i (by rw [h.o.1.1];exact hi)).lt.2);(have bn:=zH<|s.o.lt.2);(have bo:=zH<|c.o.size);clear hrow6 hb6 bf s h c;generalize wr.heap.size=S at *;go_wp2;go_loopw [54] (fun v54 wr=>RelSy3 w R k t q (fun j i=>itN G i (inZ q (L.getD j 0))) right v S g (eachL G k (inZ q (L.getD j 0))) j v54 wr) (fun v54 _=>k-(intOf v54).toNat);case atStart=>exact K.o
       case round =>
        obtain⟨i,f,hi,rfl,A,z,V,B⟩:=hrel;have s:=zH A;have h:=zH z;have M:=zH V;have c:=zH B;have bw:=z.1.1;clear A z V B K;by_cases O:i<k
        . (have ab : i < f.length:=by omega);have y1:=s.o.cell ab;have ao:=(h.o.1.row O).1;rw[ao] at y1;have C:=s.o.row i ab;have y2:=C.cell (j:=j) (by rw[qaA,ao];omega);have y3:=C.frozen j;have y4:=M.o.cell (j:=i) (by rw[qaA,qeW];exact O);rw[qaC,qfN _ _ _ O] at y4;have a1:=zH (a2.o j i);have a7:=zH (sysI_put h.o O an a1.o);(have av:=zH<|aw.o i O);(have bd:zK (∀(W:Wo)(y:Nat),Row W w.heap.size (bk v i) (cp v i) (nz ((f.getD i []).set j y))->wr.grownBy W (some (bk v i))->GridAt W w.heap.size R k (f.set i ((f.getD i []).set j y)) v):=fun W y h1 h2=>by have:=s.o.turn ab (r:=(f.getD i []).set j y) (by rw[List.length_set]) h1 h2;exact this);have X:=zH C;have au:=zH C.lt.1;have bp:=M.o.lt.1;have i0:(0:Int)<=(i:Int):=U0;have i1:(i:Int)<(k:Int):=U0;have jt:(j:Int)<((t+1:Nat):Int):=U0;clear C bw s;have bm:zK ((fun j i=>itN G i (inZ q (L.getD j 0))) j i=itN G i (inZ q (L.getD j 0))):=rfl;generalize bk v i=bi at *;generalize cp v i=ci at *;go_wp2;go_roundw;case rel=>refine⟨i+1,_,U0,gn,bd.o _ _ ?_ (grown_set wr (zA bi j) _),a7.o,M.o.far (p:=(zA bi j)) (by have:=av.o;show g≠bi;omega) _,c.o.setCell (p:=(zA bi j)) au.o _⟩;rw[<- qbC];exact Row.set X.o j _
          case measure=>simp[intOf];omega
        . (obtain rfl : i = k:=by omega);go_wp2;go_roundw;case rel=>exact⟨j+1,f,v,U0,gn,s.o,sysI_next h.o,c.o⟩
          case measure=>simp[intOf];omega
     . (obtain rfl:j=t:=by omega);go_wp2;go_ret;exact⟨⟨R,rows,v,rfl,s.o,h.o⟩,c.o⟩
end Go.Proofs.YtocbdafcolbfeaaGreat
namespace Go.Proofs.YtocbdafcolbfeaaGreat
open Go.RowKit Pln
open Al
section
variable {q:Nat} {O:Ops}
def sRow(h:Fld q O)(n:Nat)(r:LN)(v:Nat->El q O h):El q O h:=sm (n+1) fun j=>wd h r j*v j
def Nul(h:Fld q O)(n:Nat)(M:LL)(v:Nat->El q O h):Prop:=∀i,i<n->sRow h n (M.getD i []) v=0
def NulEq(O:Ops)(q n:Nat)(M M':LL):Prop:=∀(h:Fld q O)(v:Nat->El q O h),Nul h n M v ↔ Nul h n M' v
theorem nulEq_refl(O:Ops)(q n:Nat)(M:LL):NulEq O q n M M:=fun _ _=>Iff.rfl
theorem NulEq.trans{n:Nat}{A B C:LL}(b:NulEq O q n A B)(c:NulEq O q n B C):NulEq O q n A C:=fun h v=>(b h v).trans (c h v)
theorem qcZ{rows:LL}{i j:Nat}(b:i<rows.length)(c:j<rows.length)(k:Nat):(swapRows rows i j).getD k []=if k=j then rows.getD i [] else if k=i then rows.getD j [] else rows.getD k []:=by unfold swapRows;rw[qeT _ _ _ _ _ so,qeT _ _ _ _ _ U0]
theorem nul_swap{n:Nat}{M:LL}(l:M.length=n){i j:Nat}(f:i<n)(g:j<n):NulEq O q n M (swapRows M i j):=fun h v=>by
 refine⟨fun hv k hk=>?_,fun hv k hk=>?_⟩
 . rw [qcZ U0 U0]
   split
   . exact hv i f
   . split
     . exact hv j g
     . exact hv k hk
 . by_cases b : k = i
   . subst b
     have:=hv j g
     rw[qcZ U0 U0,if_pos rfl] at this
     exact this
   . by_cases c : k = j
     . subst c
       have:=hv i f
       rw[qcZ U0 U0] at this
       by_cases d:i=k
       . exact absurd d.symm b
       . rw[if_neg d,if_pos rfl] at this
         exact this
     . have:=hv k hk
       rw[qcZ U0 U0,if_neg c,if_neg b] at this
       exact this
theorem nul_set{n:Nat}{M:LL}(f:M.length=n){i:Nat}(d:i<n){r:LN}(c:∀ (h:Fld q O)(v:Nat->El q O h),(∀ k,k<n->k≠i->sRow h n (M.getD k []) v=0)->(sRow h n r v=0 ↔ sRow h n (M.getD i []) v=0)):NulEq O q n M (M.set i r):=fun h v=>by
 refine⟨fun hv k hk=>?_,fun hv k hk=>?_⟩
 . rw[qeT _ _ _ _ _ U0]
   split
   . exact(c h v fun k hk _=>hv k hk).2 (hv i d)
   . exact hv k hk
 . have b : ∀ k,k < n -> k ≠ i -> sRow h n (M.getD k []) v = 0 := fun k hk hne => by
    have:=hv k hk
    rw[qeT _ _ _ _ _ U0,if_neg hne] at this
    exact this
   by_cases e:k=i
   . subst e
     have:=hv k hk
     rw[qeT _ _ _ _ _ U0,if_pos rfl] at this
     exact(c h v b).1 this
   . exact b k hk e
theorem inv_el(h:Fld q O){y:Nat}(b:y<q)(c:y≠0):El.of h (O.inv y)*El.of h y=1/\El.of h (O.inv y)≠0:=by
 have H:=El.fd (h:=h);have e:El.of h (O.inv y)*El.of h y=1:=by rw[H.mulC,<- El.of_mul b (h.invL y b c),h.inv y b c,El.of_one]
 refine⟨e,fun e2=>?_⟩;rw[e2,H.zmul] at e;exact H.ne e.symm
def UnitC(n c:Nat)(M:LL):Prop:=∀i j,i<n->j<c->at2 M i j=if i=j then 1 else 0
theorem el_at(h:Fld q O){n:Nat}{M:LL}(b:Grid q n (n+1) M){i j:Nat}(c:i<n)(d:j<n+1){x:Nat}(f:x<q):at2 M i j=x ↔ wd h (M.getD i []) j=El.of h x:=
 ⟨fun e=>by rw[<- qcJ,e],fun e=>El.of_inj (h:=h) (b.at_ c d) f (by rw[qcJ,e])⟩
theorem sol_swap{n c p:Nat}{M:LL}(g:Grid q n (n+1) M)(r:UnitC n c M)(m:c<n)(o:p<n)(l:c<=p)(h:at2 M p c≠0):Grid q n (n+1) (swapRows M c p)/\UnitC n c (swapRows M c p)/\at2 (swapRows M c p) c c≠0:=by
 refine⟨qdC g m o,fun i j hi hj=>?_,?_⟩
 . (have d : ∀ k,c <= k -> k < n -> at2 M k j = 0 := fun k h1 h2 => by rw [r k j h2 hj,if_neg U0]);unfold at2 at d ⊢;rw [qcZ (by rw [g.1];omega) (by rw [g.1];omega)];by_cases b:i=p
   . rw[if_pos b,if_neg U0];exact d c zn m
   . rw[if_neg b];by_cases f:i=c
     . rw[if_pos f,if_neg U0];exact d p l o
     . rw[if_neg f];exact r i j hi hj
 . unfold at2 at h ⊢;rw[qcZ (by rw[g.1];omega) (by rw[g.1];omega)];by_cases b:c=p
   . rw[if_pos b];subst b;exact h
   . rw[if_neg b,if_pos rfl];exact h
theorem sol_scale(h:Fld q O){n c:Nat}{M:LL}(A:Grid q n (n+1) M)(C:UnitC n c M)(z:c<n)(B:at2 M c c≠0):Grid q n (n+1) (M.set c (scaleRow O (O.inv (at2 M c c)) (M.getD c [])))/\UnitC n c (M.set c (scaleRow O (O.inv (at2 M c c)) (M.getD c [])))/\at2 (M.set c (scaleRow O (O.inv (at2 M c c)) (M.getD c []))) c c=1/\NulEq O q n M (M.set c (scaleRow O (O.inv (at2 M c c)) (M.getD c []))):=by
 have H:=El.fd (h:=h);obtain⟨t,m⟩:=A.row z;have k:=A.at_ z (show c<n+1 by omega);have g:=h.invL _ k B;obtain⟨r,u⟩:=inv_el h k B
 have d:Grid q n (n+1) (M.set c (scaleRow O (O.inv (at2 M c c)) (M.getD c []))):=A.set c ⟨by unfold scaleRow;rw[List.length_map,t],fun x hx=>by
  obtain⟨y,l,rfl⟩:=List.mem_map.1 hx
  exact h.mulL _ _ g (m y l)⟩
 have p:∀j,wd h (scaleRow O (O.inv (at2 M c c)) (M.getD c [])) j=El.of h (O.inv (at2 M c c))*wd h (M.getD c []) j:=fun j=>wd_scale g m j;have b:(M.set c (scaleRow O (O.inv (at2 M c c)) (M.getD c []))).getD c []=scaleRow O (O.inv (at2 M c c)) (M.getD c []):=by rw[qeT _ _ _ _ _ (by rw[A.1];exact z),if_pos rfl]
 refine⟨d,fun i j hi' hj=>?_,?_,nul_set A.1 z fun h' v _=>?_⟩
 . by_cases e : i = c
   . subst e;rw[if_neg U0];refine(el_at h d z U0 U0).2 ?_;rw[b,p,El.of_zero,(el_at h A z U0 (show 0<q by omega)).1 (by rw[C i j z hj,if_neg U0]),El.of_zero,H.mulZ]
   . have:=C i j hi' hj;rw[Al.at2_set (by rw[A.1];exact z),if_neg e];exact this
 . refine(el_at h d z U0 h.q1).2 ?_;rw[b,p,<- qcJ,r,El.of_one]
 . have f:=El.fd (h:=h');(have s:sRow h' n (scaleRow O (O.inv (at2 M c c)) (M.getD c [])) v=El.of h' (O.inv (at2 M c c))*sRow h' n (M.getD c []) v:=by unfold sRow;rw[<- f.sm_mul];refine f.sm_congr fun j _=>?_;rw[wd_scale g m j,f.mulA]);rw[s];refine⟨fun e=>?_,fun e=>by rw[e,f.mulZ]⟩;by_cases o:sRow h' n (M.getD c []) v=0
   . exact o
   . exact absurd e (f.mulne (inv_el h' k B).2 o)
theorem sol_clear(h:Fld q O){n c i:Nat}{M:LL}(s:Grid q n (n+1) M)(y:UnitC n c M)(u:c<n)(z:at2 M c c=1)(t:i<n)(x:i≠c):Grid q n (n+1) (M.set i (List.zipWith (subF O (at2 M i c)) (M.getD i []) (M.getD c [])))/\UnitC n c (M.set i (List.zipWith (subF O (at2 M i c)) (M.getD i []) (M.getD c [])))/\(∀ k,at2 (M.set i (List.zipWith (subF O (at2 M i c)) (M.getD i []) (M.getD c []))) k c=if k=i then 0 else at2 M k c)/\NulEq O q n M (M.set i (List.zipWith (subF O (at2 M i c)) (M.getD i []) (M.getD c []))):=by
 have H:=El.fd (h:=h);have l:=s.at_ t (show c<n+1 by omega);obtain⟨p,m⟩:=subF_ok h l (s.row t) (s.row u);have r:=h.q1;have f:=s.set i p;have d:(M.set i (List.zipWith (subF O (at2 M i c)) (M.getD i []) (M.getD c []))).getD i []=List.zipWith (subF O (at2 M i c)) (M.getD i []) (M.getD c []):=by rw[qeT _ _ _ _ _ (by rw[s.1];exact t),if_pos rfl]
 refine⟨f,fun k j hk hj=>?_,fun k=>?_,nul_set s.1 t fun h' v hv=>?_⟩
 . have g:=y k j hk hj;by_cases e:k=i
   . subst e;refine(el_at h f hk U0 (by split<;>omega)).2 ?_;rw[d,m,<- qcJ,<- qcJ,y c j u hj,if_neg (show ¬c=j by omega),El.of_zero,H.mulZ,H.negz,H.zadd,g]
   . rw[Al.at2_set (by rw[s.1];exact t),if_neg e];exact g
 . by_cases e : k = i
   . subst e;rw[if_pos rfl];refine(el_at h f t U0 U0).2 ?_;rw[d,m,<- qcJ,<- qcJ,z,El.of_one,H.umul,H.addN,El.of_zero]
   . rw[Al.at2_set (by rw[s.1];exact t),if_neg e,if_neg e]
 . have b:=El.fd (h:=h');(have o:sRow h' n (List.zipWith (subF O (at2 M i c)) (M.getD i []) (M.getD c [])) v=sRow h' n (M.getD i []) v+-El.of h' (at2 M i c)*sRow h' n (M.getD c []) v:=by unfold sRow;rw[<- b.sm_lin];refine b.sm_congr fun j _=>?_;rw[(subF_ok h' l (s.row t) (s.row u)).2 j,b.rdist,b.negm,b.negm,b.mulA]);rw[o,hv c u (fun e=>x e.symm),b.mulZ,b.zadd]
def Solv(O:Ops)(q n:Nat)(M:LL)(out:LN):Prop:=∀h:Fld q O,(∀i,i<n->sm n (fun j=>wd h (M.getD i []) j*wd h out j)=wd h (M.getD i []) n)/\∀c:Nat->El q O h,(∀i,i<n->sm n (fun j=>wd h (M.getD i []) j*c j)=0)->∀j,j<n->c j=0
theorem solv_of{n:Nat}{o M:LL}(_:Grid q n (n+1) M)(s:UnitC n n M)(p:NulEq O q n o M){m:LN}(u:∀ i,i<n->m.getD i 0=at2 M i n):Solv O q n o m:=fun h=>by
 have H:=El.fd (h:=h)
 have g:∀(v:Nat->El q O h) i,i<n->sRow h n (M.getD i []) v=v i+wd h (M.getD i []) n*v n:=fun v i hi=>by
  show sm n _+_=_
  rw[H.sm_one (i:=i) hi fun j hj hne=>by rw[<- qcJ,s i j hi hj,if_neg (fun e=>hne e.symm),El.of_zero,H.zmul]]
  rw[<- qcJ,s i i hi hi,if_pos rfl,El.of_one,H.mulU]
 have hcut:∀(f:Nat->El q O h)(z:El q O h)(r:LN),sRow h n r (fun j=>if j<n then f j else z)=sm n (fun j=>wd h r j*f j)+wd h r n*z:=fun f z r=>by
  have l:sm n (fun j=>wd h r j*if j<n then f j else z)=sm n (fun j=>wd h r j*f j):=H.sm_congr fun j hj=>by rw[if_pos hj]
  show sm n (fun j=>wd h r j*if j<n then f j else z)+wd h r n*(if n<n then f n else z)=_
  rw[if_neg (Nat.lt_irrefl n),l]
 refine⟨fun i hi=>?_,fun c hc j hj=>?_⟩
 . have d : Nul h n M fun j => if j < n then wd h m j else -1 := fun k hk => by
    rw[g _ k hk,if_pos hk,if_neg (Nat.lt_irrefl n),H.mneg,H.umul,<- qcJ,<- u k hk]
    exact H.addN _
   have b:=(p h _).2 d i hi
   rw[hcut,H.mneg,H.umul] at b
   exact H.subz b
 . have d : Nul h n o fun j => if j < n then c j else 0 := fun k hk => by
    rw[hcut,hc k hk,H.mulZ,H.addZ]
   have b:=(p h _).1 d j hj
   rw[g _ j hj,if_pos hj,if_neg (Nat.lt_irrefl n),H.mulZ,H.zadd] at b
   exact b
end
theorem combO_zero(O:Ops):∀ (rows:LL)(msg out:LN),(∀ x∈msg,x=0)->Dv.combO O out msg rows=out
 |[],msg,out,_=>by cases msg<;>rfl
 |r :: rs,[],out,_=>rfl
 |r :: rs,x :: xs,out,h=>by
   unfold Dv.combO
   rw[if_pos (h x U2)]
   exact combO_zero O rs xs out (fun y hy=>h y (by simp[hy]))
theorem true_wt{d:StD}(j:TrueOk d)(o:0<d.p.toNat^d.m.toNat){i:LN}(k:i.length=(natR d.gen).length)(l:∀x∈i,x<d.p.toNat^d.m.toNat):
 Dv.wt (cwO d.p.toNat d.m.toNat (mdOf d.m d.mod) d.n.toNat (natR d.gen) i)=0\/d.low<=((Dv.wt (cwO d.p.toNat d.m.toNat (mdOf d.m d.mod) d.n.toNat (natR d.gen) i):Nat):Int):=by
 obtain⟨n,c,f,g⟩:=Dv.index_of o (natR d.gen).length i k l;by_cases h:n=0
 . left;unfold cwO;rw[combO_zero _ _ _ _ (g h)];exact Dv.wt_zeros _
 . right;unfold TrueOk at j;rw[natR_len] at c;have b:=Dv.leastGo_at (wtAt d.p.toNat d.m.toNat (mdOf d.m d.mod) d.n.toNat (natR d.gen)) ((d.p.toNat^d.m.toNat)^d.gen.length-1) 1 (d.n.toNat+1) n U0 U0;(have e:wtAt d.p.toNat d.m.toNat (mdOf d.m d.mod) d.n.toNat (natR d.gen) n=Dv.wt (cwO d.p.toNat d.m.toNat (mdOf d.m d.mod) d.n.toNat (natR d.gen) i):=by unfold wtAt;rw[f]);rw[e] at b;exact Int.le_trans j (Int.ofNat_le.2 b)
theorem mdOf_len{d:StD}(f:fieldOK d.p d.m d.mod=true):(mdOf d.m d.mod).length=d.m.toNat:=by
 have c:=qeU (by have h:=f;unfold fieldOK at h;rw[Bool.and_eq_true] at h;exact h.1:shapeM d.p d.m d.mod=true);by_cases b:d.m=1
 . rw[b];simp[mdOf]
 . unfold mdOf;rw[if_neg b,List.length_map,c.len b]
def LowOk(d:StD):Prop:=∀(hfl:Fld (d.p.toNat^d.m.toNat) (opsS d)),MinW hfl d.n.toNat (natR d.gen) d.low.toNat
theorem true_low{d:StD}(hd:formZ d=0)(k:TrueOk d):LowOk d:=fun hfl=>by
 have f:=form_is hd
 have g:=field_ft f.field
 have j:=hfl.q1
 have c:∀r∈natR d.gen,Dv.Ok (d.p.toNat^d.m.toNat) d.n.toNat r:=fun r h=>f.grid.2 r h
 have i:OpsEq (d.p.toNat^d.m.toNat) (opsS d) (refOps d.p.toNat d.m.toNat (mdOf d.m d.mod)):=ops_eq g (mdOf_len f.field)
 refine minW_of c fun msg hl hm=>?_
 have b:=true_wt k U0 hl hm
 have e:cwO d.p.toNat d.m.toNat (mdOf d.m d.mod) d.n.toNat (natR d.gen) msg=Dv.combO (opsS d) (List.replicate d.n.toNat 0) msg (natR d.gen):=combO_eq i c msg _ hm (Dv.zeros_ok U0)
 rw[e] at b
 rcases b with b|b
 . exact .inl b
 . right;omega
def SameF(s p:StD):Prop:=s.p=p.p/\s.m=p.m/\s.mod=p.mod
theorem SameF.ops{s p:StD}(h:SameF s p):p.p.toNat^p.m.toNat=s.p.toNat^s.m.toNat/\opsS p=opsS s:=by obtain⟨b,c,d⟩:=h;unfold opsS;rw[b,c,d];exact⟨rfl,rfl⟩
theorem LowOk.at_{s p:StD}(h:LowOk p)(e:SameF s p)(hfl:Fld (s.p.toNat^s.m.toNat) (opsS s)):MinW hfl p.n.toNat (natR p.gen) p.low.toNat:=by
 obtain⟨d,f⟩:=e.ops;have c:∀(q:Nat)(O:Ops)(b:Fld q O),p.p.toNat^p.m.toNat=q->opsS p=O->MinW b p.n.toNat (natR p.gen) p.low.toNat:=by rintro q O b rfl rfl;exact h b
 exact c _ _ hfl d f
theorem SameF.grid{s p:StD}(e:SameF s p)(b:formZ p=0):Grid (s.p.toNat^s.m.toNat) (natR p.gen).length p.n.toNat (natR p.gen):=by have h:=(form_is b).grid;rwa [e.ops.1] at h
theorem made_law{s:StD}(u:formZ s=0){hfl:Fld (s.p.toNat^s.m.toNat) (opsS s)}{Q:(Nat->El (s.p.toNat^s.m.toNat) (opsS s) hfl)->Prop}(L:LinF (s.p.toNat^s.m.toNat) (opsS s) hfl Q){rows:LL}(o:Grid (s.p.toNat^s.m.toNat) rows.length s.n.toNat rows)(j:s.gen=nzs (canonM (opsS s) rows s.n.toNat))(t:∀r∈rows,Q (wd hfl r))(k:∀f,Q f->wf s.n.toNat f=0\/s.low.toNat<=wf s.n.toNat f){l:LN}(q:∀x∈l,x<s.p.toNat^s.m.toNat):WordOk s l:=by
 have c:∀r∈natR s.gen,Q (wd hfl r):=fun r h=>by rw[j,natR_nzs] at h;exact L.canon o t r h
 obtain⟨i,d⟩:=cw_lin u L c q;have b:=k _ i;have g:=wf_wt (h:=hfl) d.2;rw[d.1] at g;rw[g] at b;unfold WordOk;rcases b with b|b
 . exact .inl b
 . right;omega
end Go.Proofs.YtocbdafcolbfeaaGreat
namespace Go.Proofs.YtocbdafcolbfeaaGreat
open Go.RowKit Go.ChangeShapes Go.WideShapes Go.Deep Go.Proofs.Tryz
section
variable {H:Type} {enc:TypeId × Value->H} {w:Wo} {base:Nat} {spare:Nat->Bool} {held:Bool}
theorem cellsCode:prog.cellsOf 32=5:=U1
theorem cellsRun:prog.cellsOf 34=5:=U1
theorem cellsMono:prog.cellsOf 36=3:=U1
theorem cellsExcl:prog.cellsOf 38=1:=U1
theorem cellsStep:prog.cellsOf 40=23:=U1
theorem qeB{j:Nat}{t e:TypeId}{c:Value}{x:DataW H × List MemPlace}(l:prog.underlying t=some (.slice e))(h:DataW.trod enc prog w base spare held j t [c]=some x):
 ∃(A:OA)(n k:Nat),c=zL A n k/\n<=maxLen:=by
 rcases DataW.trod_slice l h with⟨f,_⟩|⟨a,len,b,_,_,_,_,d,_,_,g,i,_⟩
 . exact⟨none,0,0,by simpa using f,U2⟩
 . exact⟨some a,len,b,by simpa using d,U0⟩
theorem field_cells{q:Nat}{a b c:Value}{x:DataW H × List MemPlace}(h:DataW.trod enc prog w base spare held q 29 [a,b,c]=some x):
 ∃(p m:Int)(zs:LI)(A:OA)(k:Nat),a=Y p/\b=Y m/\c=zL A zs.length k/\zs.length<=maxLen/\zI w A zs:=by obtain⟨_,_,_,i⟩:=qaU underlying29 h 0 3 0 1 rfl cellsInt;obtain⟨_,_,_,j⟩:=qaU underlying29 h 1 3 1 1 rfl cellsInt;obtain⟨_,_,_,l⟩:=qaU underlying29 h 2 23 2 1 rfl cellsInts;obtain⟨p,d⟩:=qbT i;obtain⟨m,f⟩:=qbT j;obtain⟨zs,A,k,g,o,n⟩:=ints_cell l;exact⟨p,m,zs,A,k,d,f,g,o,n⟩
end
end Go.Proofs.YtocbdafcolbfeaaGreat
namespace Go.Proofs.YtocbdafcolbfeaaGreat
open Go.RowKit Go.ChangeShapes Go.WideShapes Go.Deep
section
variable {H:Type} {enc:TypeId × Value->H} {w:Wo} {base:Nat} {spare:Nat->Bool} {held:Bool}
theorem add_of_add(a:Addr)(i j:Nat):(a.add i).add j=a.add (i+j):=by unfold Addr.add;by_cases b:i=0<;>by_cases c:j=0<;>simp[b,c,Nat.add_assoc]
end
end Go.Proofs.YtocbdafcolbfeaaGreat
