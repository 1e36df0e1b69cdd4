/- Parts of the proof. -/
import Derived.Test.YtocbdafcolbfeaaGreatR19
set_option maxRecDepth 100000
set_option maxHeartbeats 8000000
namespace Go.Proofs.YtocbdafcolbfeaaGreat
namespace Al
structure Fd (K:Type) [Add K] [Mul K] [Neg K] [Zero K] [One K]:Prop where
 addC:∀x y:K,x+y=y+x
 addA:∀x y z:K,x+y+z=x+(y+z)
 addZ:∀x:K,0+x=x
 addN:∀x:K,x+-x=0
 mulC:∀x y:K,x*y=y*x
 mulA:∀x y z:K,x*y*z=x*(y*z)
 mulU:∀x:K,1*x=x
 dist:∀x y z:K,x*(y+z)=x*y+x*z
 inv:∀x:K,x≠0->∃y:K,x*y=1
 ne:(1:K)≠0
section
variable {K:Type} [Add K] [Mul K] [Neg K] [Zero K] [One K]
def pwr(x:K):Nat->K
 |0=>1
 |n+1=>pwr x n*x
def sm(n:Nat)(f:Nat->K):K:=
 match n with
 |0=>0
 |n+1=>sm n f+f n
theorem Fd.zadd(H:Fd K)(x:K):x+0=x:=by rw[H.addC,H.addZ]
theorem Fd.nadd(H:Fd K)(x:K):-x+x=0:=by rw[H.addC,H.addN]
theorem Fd.cancel(H:Fd K){x y z:K}(h:x+y=x+z):y=z:=by
 have b:-x+(x+y)=-x+(x+z):=by rw[h]
 rwa [<- H.addA,<- H.addA,H.nadd,H.addZ,H.addZ] at b
theorem Fd.mulZ(H:Fd K)(x:K):x*0=0:=by have h:=H.dist x 0 0;rw[H.addZ] at h;exact H.cancel (x:=x*0) (by rw[<- h,H.zadd])
theorem Fd.zmul(H:Fd K)(x:K):0*x=0:=by rw[H.mulC,H.mulZ]
theorem Fd.umul(H:Fd K)(x:K):x*1=x:=by rw[H.mulC,H.mulU]
theorem Fd.rdist(H:Fd K)(x y z:K):(x+y)*z=x*z+y*z:=by rw[H.mulC,H.dist,H.mulC z x,H.mulC z y]
theorem Fd.negm(H:Fd K)(x y:K):-x*y=-(x*y):=by refine H.cancel (x:=x*y) ?_;rw[<- H.rdist,H.addN,H.zmul,H.addN]
theorem Fd.mneg(H:Fd K)(x y:K):x*-y=-(x*y):=by rw[H.mulC,H.negm,H.mulC]
theorem Fd.negz(H:Fd K):-(0:K)=0:=by have h:=H.addN (0:K);rwa [H.addZ] at h
theorem Fd.subz(H:Fd K){x y:K}(h:x+-y=0):x=y:=by
 have b:x+-y+y=0+y:=by rw[h]
 rwa [H.addA,H.nadd,H.zadd,H.addZ] at b
theorem Fd.negu(H:Fd K){x y:K}(h:x+y=0):y=-x:=H.cancel (x:=x) (by rw[h,H.addN])
theorem Fd.mulne(H:Fd K){x y:K}(d:x≠0)(f:y≠0):x*y≠0:=fun h=>by
 obtain⟨z,c⟩:=H.inv x d
 have b:z*(x*y)=z*0:=by rw[h]
 rw[<- H.mulA,H.mulC z x,c,H.mulU,H.mulZ] at b
 exact f b
theorem Fd.pwr_ne(H:Fd K){x:K}(b:x≠0):∀n,pwr x n≠0
 |0=>H.ne
 |n+1=>H.mulne (Fd.pwr_ne H b n) b
theorem Fd.pwr_add(H:Fd K)(x:K)(i:Nat):∀j,pwr x (i+j)=pwr x i*pwr x j
 |0=>by show pwr x i=pwr x i*1;rw[H.umul]
 |j+1=>by show pwr x (i+j)*x=pwr x i*(pwr x j*x);rw[Fd.pwr_add H x i j,H.mulA]
theorem Fd.pwr_mul(H:Fd K)(x:K)(i:Nat):∀j,pwr x (i*j)=pwr (pwr x i) j
 |0=>rfl
 |j+1=>by rw[Nat.mul_succ,H.pwr_add,Fd.pwr_mul H x i j];rfl
theorem Fd.pwr_prod(H:Fd K)(x y:K):∀ n,pwr (x*y) n=pwr x n*pwr y n
 |0=>(H.umul 1).symm
 |n + 1=>by
   show pwr (x*y) n*(x*y)=pwr x n*x*(pwr y n*y)
   rw[Fd.pwr_prod H x y n,H.mulA,H.mulA,<- H.mulA (pwr y n) x y,H.mulC (pwr y n) x,H.mulA]
theorem Fd.pwr_one(H:Fd K):∀n,pwr (1:K) n=1
 |0=>rfl
 |n+1=>by show pwr 1 n*1=(1:K);rw[H.umul,Fd.pwr_one H n]
theorem Fd.pwr_mod(H:Fd K){x:K}{n:Nat}(h:pwr x n=1)(k:Nat):pwr x (k % n)=pwr x k:=by
 have e:pwr x k=pwr x (n*(k / n))*pwr x (k % n):=by rw[<- H.pwr_add,Nat.div_add_mod]
 rw[e,H.pwr_mul,h,H.pwr_one,H.mulU]
theorem Fd.sm_zero(H:Fd K){n:Nat}{f:Nat->K}(h:∀j,j<n->f j=0):sm n f=0:=by
 induction n with
 |zero=>rfl
 |succ n ih=>show sm n f+f n=0;rw[ih fun j hj=>h j U0,h n U0,H.addZ]
theorem Fd.sm_congr(_:Fd K){n:Nat}{f g:Nat->K}(h:∀j,j<n->f j=g j):sm n f=sm n g:=by
 induction n with
 |zero=>rfl
 |succ n ih=>show sm n f+f n=sm n g+g n;rw[ih fun j hj=>h j U0,h n U0]
theorem Fd.sm_add(H:Fd K)(n:Nat)(f g:Nat->K):sm n (fun j=>f j+g j)=sm n f+sm n g:=by
 induction n with
 |zero=>exact(H.addZ 0).symm
 |succ n ih=>show sm n (fun j=>f j+g j)+(f n+g n)=(sm n f+f n)+(sm n g+g n);rw[ih,H.addA,H.addA,<- H.addA (sm n g),H.addC (sm n g) (f n),H.addA]
theorem Fd.sm_mul(H:Fd K)(n:Nat)(a:K)(f:Nat->K):sm n (fun j=>a*f j)=a*sm n f:=by
 induction n with
 |zero=>exact(H.mulZ a).symm
 |succ n ih=>show sm n (fun j=>a*f j)+a*f n=a*(sm n f+f n);rw[ih,H.dist]
theorem Fd.sm_lin(H:Fd K)(n:Nat)(a:K)(f g:Nat->K):sm n (fun j=>f j+a*g j)=sm n f+a*sm n g:=by rw[H.sm_add,H.sm_mul]
theorem Fd.sm_one(H:Fd K){n i:Nat}{f:Nat->K}(b:i<n)(h:∀j,j<n->j≠i->f j=0):sm n f=f i:=by
 induction n with
 |zero=>omega
 |succ n ih=>
  show sm n f+f n=f i;by_cases e:i=n
  . subst e;rw[H.sm_zero fun j hj=>h j U0 U0,H.addZ]
  . rw[ih U0 fun j hj hne=>h j U0 hne,h n U0 (fun e2=>e e2.symm),H.zadd]
theorem Fd.sm_swap(H:Fd K)(n m:Nat)(f:Nat->Nat->K):sm n (fun j=>sm m (fun i=>f i j))=sm m (fun i=>sm n (fun j=>f i j)):=by
 induction m with
 |zero=>exact H.sm_zero fun _ _=>rfl
 |succ m ih=>show sm n (fun j=>sm m (fun i=>f i j)+f m j)=sm m (fun i=>sm n (fun j=>f i j))+sm n (fun j=>f m j);rw[H.sm_add,ih]
def ev:List K->K->K
 |[],_=>0
 |a :: r,x=>a+x*ev r x
theorem Fd.ev_div(H:Fd K)(r:K):∀ l:List K,∃ l':List K,(l.length=0\/l'.length+1=l.length)/\∀ x,ev l x=ev l r+(x+-r)*ev l' x
 |[]=>⟨[],.inl rfl,fun x=>by show(0:K)=0+(x+-r)*0;rw[H.mulZ,H.addZ]⟩
 |[a]=>⟨[],.inr rfl,fun x=>by show a+x*0=a+r*0+(x+-r)*0;rw[H.mulZ,H.mulZ,H.mulZ,H.zadd,H.zadd]⟩
 | a :: b :: l => by
   obtain⟨l',h1,h2⟩:=Fd.ev_div H r (b :: l)
   refine⟨ev (b :: l) r :: l',.inr (by rcases h1 with h|h<;>simp at h ⊢;omega),fun x=>?_⟩
   show a+x*ev (b :: l) x=a+r*ev (b :: l) r+(x+-r)*(ev (b :: l) r+x*ev l' x)
   rw[h2 x]
   generalize ev (b :: l) r=E,ev l' x=G
   rw[H.addA]
   congr 1
   rw[H.dist,H.dist (x+-r),<- H.addA]
   have d:Std.Associative (α:=K) (·*·):=⟨H.mulA⟩
   have f:Std.Commutative (α:=K) (·*·):=⟨H.mulC⟩
   have c:r*E+(x+-r)*E=x*E:=by
    rw[<- H.rdist,<- H.addA,H.addC r x,H.addA,H.addN,H.zadd]
   rw[c]
   congr 1
   ac_rfl
theorem Fd.roots(H:Fd K):∀ (l:List K)(Z:List K),Z.Nodup->(∀ z∈Z,ev l z=0)->l.length<=Z.length->∀ x,ev l x=0
 |[],_,_,_,_,_=>rfl
 |a :: l,[],_,_,h,_=>by simp at h
 | a :: l,z :: Z,hn,hz,hl,x => by
   obtain⟨l',h1,h2⟩:=H.ev_div z (a :: l)
   have b:=hz z List.mem_cons_self
   rcases h1 with h1|h1
   . simp at h1
   rw[List.length_cons,List.length_cons] at hl
   rw[List.length_cons] at h1
   have f:l'.length<(a :: l).length:=by rw[List.length_cons];omega
   have d:=Fd.roots H l' Z (List.nodup_cons.1 hn).2 (fun y hy=>by
    have c:=hz y (List.mem_cons_of_mem _ hy)
    rw[h2 y,b,H.addZ] at c
    refine Classical.byContradiction fun h6=>H.mulne (fun e=>?_) h6 c
    have:=H.subz e
    subst this
    exact(List.nodup_cons.1 hn).1 hy) (by omega) x
   rw[h2 x,b,d,H.mulZ,H.addZ]
 termination_by l=>l.length
theorem Fd.ev_lin(H:Fd K)(c:K):∀ (l l':List K),l.length=l'.length->∀ x,ev (List.zipWith (fun a b=>a+c*b) l l') x=ev l x+c*ev l' x
 |[],[],_,x=>by show(0:K)=0+c*0;rw[H.mulZ,H.addZ]
 |[],_ :: _,h,_=>by simp at h
 |_ :: _,[],h,_=>by simp at h
 |a :: l,b :: l',h,x=>by
   show(a+c*b)+x*ev (List.zipWith (fun a b=>a+c*b) l l') x=(a+x*ev l x)+c*(b+x*ev l' x)
   rw[Fd.ev_lin H c l l' (by simpa using h) x]
   generalize ev l x=P,ev l' x=Q
   have i1:Std.Associative (α:=K) (·*·):=⟨H.mulA⟩
   have d:Std.Commutative (α:=K) (·*·):=⟨H.mulC⟩
   have f:Std.Associative (α:=K) (·+·):=⟨H.addA⟩
   have g:Std.Commutative (α:=K) (·+·):=⟨H.addC⟩
   rw[H.dist,H.dist]
   have e:x*(c*Q)=c*(x*Q):=by ac_rfl
   rw[e]
   ac_rfl
end
end Al
end Go.Proofs.YtocbdafcolbfeaaGreat
namespace Go.Proofs.YtocbdafcolbfeaaGreat
open Pln
namespace Al
structure El (q:Nat) (O:Ops) (h:Fld q O) where
 n:Nat
 lt:n<q
section
variable {q:Nat} {O:Ops} {h:Fld q O}
theorem El.eq{x y:El q O h}(e:x.n=y.n):x=y:=by cases x;cases y;simp only at e;subst e;rfl
instance:Add (El q O h):=⟨fun x y=>⟨O.add x.n y.n,h.addL _ _ x.lt y.lt⟩⟩
instance:Mul (El q O h):=⟨fun x y=>⟨O.mul x.n y.n,h.mulL _ _ x.lt y.lt⟩⟩
instance:Neg (El q O h):=⟨fun x=>⟨O.neg x.n,h.negL _ x.lt⟩⟩
instance:Zero (El q O h):=⟨⟨0,by have:=h.q1;omega⟩⟩
instance:One (El q O h):=⟨⟨1,h.q1⟩⟩
theorem El.fd:Fd (El q O h) where
 addC x y:=El.eq (h.addC _ _ x.lt y.lt)
 addA x y z:=El.eq (h.addA _ _ _ x.lt y.lt z.lt)
 addZ x:=El.eq (h.addZ _ x.lt)
 addN x:=El.eq (h.addN _ x.lt)
 mulC x y:=El.eq (h.mulC _ _ x.lt y.lt)
 mulA x y z:=El.eq (h.mulA _ _ _ x.lt y.lt z.lt)
 mulU x:=El.eq (h.mulU _ x.lt)
 dist x y z:=El.eq (h.dist _ _ _ x.lt y.lt z.lt)
 inv x hx:=by
  have b:x.n≠0:=fun e=>hx (El.eq e)
  exact⟨⟨O.inv x.n,h.invL _ x.lt b⟩,El.eq (h.inv _ x.lt b)⟩
 ne e:=by
  have:(1:Nat)=0:=congrArg El.n e
  omega
def El.of(h:Fld q O)(x:Nat):El q O h:=if hx:x<q then⟨x,hx⟩ else 0
theorem El.of_n{x:Nat}(b:x<q):(El.of h x).n=x:=by unfold El.of;rw[dif_pos b]
theorem El.of_zero:El.of h 0=0:=El.eq (El.of_n (by have:=h.q1;omega))
theorem El.of_one:El.of h 1=1:=El.eq (El.of_n h.q1)
theorem El.of_add{x y:Nat}(b:x<q)(c:y<q):El.of h (O.add x y)=El.of h x+El.of h y:=by refine El.eq ?_;rw[El.of_n (h.addL _ _ b c)];show _=O.add (El.of h x).n (El.of h y).n;rw[El.of_n b,El.of_n c]
theorem El.of_mul{x y:Nat}(b:x<q)(c:y<q):El.of h (O.mul x y)=El.of h x*El.of h y:=by refine El.eq ?_;rw[El.of_n (h.mulL _ _ b c)];show _=O.mul (El.of h x).n (El.of h y).n;rw[El.of_n b,El.of_n c]
theorem El.of_neg{x:Nat}(b:x<q):El.of h (O.neg x)=-El.of h x:=by refine El.eq ?_;rw[El.of_n (h.negL _ b)];show _=O.neg (El.of h x).n;rw[El.of_n b]
theorem El.of_ne{x:Nat}(c:x<q)(b:x≠0):El.of h x≠0:=fun e=>b (by
 have:=congrArg El.n e
 rwa [El.of_n c] at this)
theorem El.of_inj{x y:Nat}(b:x<q)(c:y<q)(e:El.of h x=El.of h y):x=y:=by have:=congrArg El.n e;rwa [El.of_n b,El.of_n c] at this
theorem Fld.self(h:Fld q O):OpsEq q O O where
 add x y hx hy:=⟨rfl,h.addL x y hx hy⟩
 mul x y hx hy:=⟨rfl,h.mulL x y hx hy⟩
 neg x hx:=⟨rfl,h.negL x hx⟩
 inv x hx h0:=⟨rfl,h.invL x hx h0⟩
def wd(h:Fld q O)(w:LN)(j:Nat):El q O h:=El.of h (w.getD j 0)
theorem getD_at{l:LN}{j:Nat}(b:j<l.length):l.getD j 0=l[j]:=by simp[List.getD,b]
theorem getD_ok{l:LN}(h:∀x∈l,x<q)(c:0<q)(j:Nat):l.getD j 0<q:=by
 by_cases b:j<l.length
 . rw[getD_at b];exact h _ (List.getElem_mem b)
 . rw[qaZ U0];exact c
theorem qeH(n j:Nat):wd h (List.replicate n 0) j=0:=by
 unfold wd;have:(List.replicate n 0).getD j 0=0:=by simp[List.getD,List.getElem?_replicate];split<;>rfl
 rw[this,El.of_zero]
theorem wd_addRow{v u:LN}{a:Nat}(m:a<q)(o:∀ x∈v,x<q)(n:∀ x∈u,x<q)(p:v.length=u.length)(j:Nat):wd h (addRow O v a u) j=wd h v j+El.of h a*wd h u j:=by
 have H:=El.fd (h:=h);unfold wd;by_cases k:j<v.length
 . (have c : j < u.length:=by omega);(have e:(addRow O v a u).getD j 0=if u.getD j 0=0 then v.getD j 0 else O.add (v.getD j 0) (O.mul a (u.getD j 0)):=by rw[getD_at k,getD_at c,getD_at (by unfold addRow;rw[List.length_zipWith];omega)];unfold addRow;rw[List.getElem_zipWith]);have l:=getD_ok o (by have:=h.q1;omega) j;have d:=getD_ok n (by have:=h.q1;omega) j;rw[e];by_cases b:u.getD j 0=0
   . rw[if_pos b,b,El.of_zero,H.mulZ,H.zadd]
   . rw[if_neg b,El.of_add l (h.mulL _ _ m d),El.of_mul m d]
 . have f:v.getD j 0=0:=qaZ U0;have g:u.getD j 0=0:=qaZ U0;have i:(addRow O v a u).getD j 0=0:=qaZ (by unfold addRow;rw[List.length_zipWith];omega);rw[f,g,i,El.of_zero,H.mulZ,H.addZ]
theorem wd_scale{u:LN}{a:Nat}(f:a<q)(g:∀x∈u,x<q)(j:Nat):wd h (scaleRow O a u) j=El.of h a*wd h u j:=by
 have H:=El.fd (h:=h);unfold wd;by_cases b:j<u.length
 . (have e:(scaleRow O a u).getD j 0=O.mul a (u.getD j 0):=by rw[getD_at b,getD_at (by unfold scaleRow;rw[List.length_map];exact b)];unfold scaleRow;rw[List.getElem_map]);rw[e,El.of_mul f (getD_ok g (by have:=h.q1;omega) j)]
 . have c:u.getD j 0=0:=qaZ U0;have d:(scaleRow O a u).getD j 0=0:=qaZ (by unfold scaleRow;rw[List.length_map];omega);rw[c,d,El.of_zero,H.mulZ]
structure LinF (q:Nat) (O:Ops) (h:Fld q O) (Q:(Nat->El q O h)->Prop):Prop where
 zero:Q fun _=>0
 step:∀f g a,Q f->Q g->Q fun j=>f j+a*g j
theorem LinF.addRow{Q:(Nat->El q O h)->Prop}(L:LinF q O h Q){v u:LN}{a:Nat}(d:a<q)(i:∀x∈v,x<q)(g:∀x∈u,x<q)(f:v.length=u.length)(b:Q (wd h v))(c:Q (wd h u)):Q (wd h (addRow O v a u)):=by rw[show wd h (Pln.addRow O v a u)=fun j=>wd h v j+El.of h a*wd h u j from funext fun j=>wd_addRow d i g f j];exact L.step _ _ _ b c
theorem LinF.scale{Q:(Nat->El q O h)->Prop}(L:LinF q O h Q){u:LN}{a:Nat}(c:a<q)(d:∀x∈u,x<q)(b:Q (wd h u)):Q (wd h (scaleRow O a u)):=by rw[show wd h (scaleRow O a u)=fun j=>0+El.of h a*wd h u j from funext fun j=>by rw[wd_scale c d,El.fd.addZ]];exact L.step _ _ _ L.zero b
theorem mem_getD{rows:LL}{i:Nat}(b:i<rows.length):rows.getD i []∈rows:=by
 have:rows.getD i []=rows[i]:=by simp[List.getD,b]
 rw[this];exact List.getElem_mem b
section
variable {Q:(Nat->El q O h)->Prop} {n cols:Nat}
theorem LinF.clear(L:LinF q O h Q){rows:LL}(o:Grid q n cols rows){c t:Nat}(l:c<cols)(m:t<n)(p:∀ r∈rows,Q (wd h r)):∀ i,i<=n->∀ r∈clearGo O c t rows i,Q (wd h r)
 |0,_=>p
 | i + 1,hi => by
   have ih:=LinF.clear L o l m p i U0
   obtain⟨_,g⟩:=qdJ h.self o l m i U0
   unfold clearGo
   split
   . intro r b
     rcases List.mem_or_eq_of_mem_set b with b|rfl
     . exact ih r b
     . obtain⟨d,f⟩:=g.row (i:=i) U0
       obtain⟨j,k⟩:=g.row m
       exact L.addRow (h.negL _ (g.at_ U0 l)) f k (by rw[d,j]) (ih _ (mem_getD (by rw[g.1];omega))) (ih _ (mem_getD (by rw[g.1];omega)))
   . exact ih
theorem LinF.elim(L:LinF q O h Q){rows:LL}(B:Grid q n cols rows)(C:∀ r∈rows,Q (wd h r)):∀ c,c<=cols->∀ r∈(elGo O rows c).rows,Q (wd h r)
 |0,_=>C
 | c + 1,hc => by
   have ih:=LinF.elim L B C c U0
   obtain⟨_,g⟩:=qdT h.self B c U0
   unfold elGo
   generalize elGo O rows c=s at *
   unfold elStep
   by_cases p:s.piv.length<s.rows.length
   . simp only [if_pos p]
     have z:=qdF s.rows c (s.rows.length-s.piv.length) s.piv.length
     by_cases t:findRow s.rows c (s.rows.length-s.piv.length) s.piv.length=s.rows.length
     . simp only[if_pos t]
       exact ih
     . simp only [if_neg t]
       have d:=qcF s.rows c (s.rows.length-s.piv.length) s.piv.length U0
       generalize findRow s.rows c (s.rows.length-s.piv.length) s.piv.length=k at *
       have l:=g.1
       have f:=qdC g (i:=s.piv.length) (j:=k) U0 U0
       have o:at2 (swapRows s.rows s.piv.length k) s.piv.length c≠0:=by
        unfold at2 at d ⊢
        rw[qfE U0 U0]
        exact d
       have m:∀ r∈swapRows s.rows s.piv.length k,Q (wd h r):=by
        intro r b
        unfold swapRows at b
        rcases List.mem_or_eq_of_mem_set b with b|rfl
        . rcases List.mem_or_eq_of_mem_set b with b|rfl
          . exact ih r b
          . exact ih _ (mem_getD U0)
        . exact ih _ (mem_getD U0)
       generalize swapRows s.rows s.piv.length k=y at *
       obtain⟨_,u⟩:=qfL h.self f (i:=s.piv.length) U0 U0 o
       have v:∀ r∈normRow O y s.piv.length c,Q (wd h r):=by
        unfold normRow
        split
        . exact m
        . intro r b
          rcases List.mem_or_eq_of_mem_set b with b|rfl
          . exact m r b
          . obtain⟨A,x⟩:=f.row (i:=s.piv.length) U0
            exact L.scale (h.invL _ (f.at_ U0 U0) o) x (m _ (mem_getD (by rw[f.1];omega)))
       rw[l]
       exact LinF.clear L u U0 U0 v n zn
   . simp only[if_neg p]
     exact ih
theorem LinF.canon(L:LinF q O h Q){rows:LL}(c:Grid q n cols rows)(d:∀r∈rows,Q (wd h r)):∀r∈canonM O rows cols,Q (wd h r):=by intro r b;unfold canonM at b;exact L.elim c d cols zn r (List.mem_of_mem_take b)
theorem LinF.comb(L:LinF q O h Q){rows:LL}{n:Nat}(m:∀ r∈rows,Dv.Ok q n r/\Q (wd h r)):∀ (msg out:LN),(∀ x∈msg,x<q)->Dv.Ok q n out->Q (wd h out)->Q (wd h (Dv.combO O out msg rows))/\Dv.Ok q n (Dv.combO O out msg rows):=by
 induction rows with
 |nil=>intro msg out _ b c;cases msg<;>exact⟨c,b⟩
 |cons r rs ih=>
  intro msg out f b c;cases msg with
  |nil=>exact⟨c,b⟩
  |cons x xs=>
   unfold Dv.combO;obtain⟨⟨j,k⟩,l⟩:=m r List.mem_cons_self;have d:=ih (fun y hy=>m y (List.mem_cons_of_mem _ hy)) xs;have i:=f x List.mem_cons_self;by_cases g:x=0
   . rw[if_pos g];exact d out (fun y hy=>f y (List.mem_cons_of_mem _ hy)) b c
   . rw[if_neg g];exact d _ (fun y hy=>f y (List.mem_cons_of_mem _ hy)) ⟨by unfold Pln.addRow;rw[List.length_zipWith,b.1,j,Nat.min_self],(qdB h.self i b.2 k).2⟩ (L.addRow i b.2 k (by rw[b.1,j]) c l)
end
def UnitC(r:Nat)(rows:LL)(piv:LN):Prop:=∀i,i<rows.length->∀k,k<r->at2 rows i (piv.getD k 0)=if i=k then 1 else 0
theorem qcJ{rows:LL}(i c:Nat):El.of h (at2 rows i c)=wd h (rows.getD i []) c:=rfl
theorem at2_set{rows:LL}{i:Nat}(b:i<rows.length)(r:LN)(k c:Nat):at2 (rows.set i r) k c=if k=i then r.getD c 0 else at2 rows k c:=by
 unfold at2;by_cases e:k=i
 . subst e;rw[if_pos rfl];simp[List.getD,b]
 . rw[if_neg e];simp only[List.getD];rw[List.getElem?_set_ne (fun e2=>e e2.symm)]
theorem addRow_at{v u:LN}{a:Nat}{j:Nat}(b:j<v.length)(c:v.length=u.length):(addRow O v a u).getD j 0=if u.getD j 0=0 then v.getD j 0 else O.add (v.getD j 0) (O.mul a (u.getD j 0)):=by rw[getD_at b,getD_at (show j<u.length by omega),getD_at (by unfold addRow;rw[List.length_zipWith];omega)];unfold addRow;rw[List.getElem_zipWith]
theorem clear_at(h:Fld q O){n cols:Nat}{rows:LL}(C:Grid q n cols rows){c t:Nat}(z:c<cols)(A:t<n)(B:at2 rows t c=1):∀ i,i<=n ->
 (∀k,k<n->∀j,j<cols->at2 rows t j=0->at2 (clearGo O c t rows i) k j=at2 rows k j)/\(∀j,at2 (clearGo O c t rows i) t j=at2 rows t j)/\(∀k,k<i->k≠t->at2 (clearGo O c t rows i) k c=0)/\(∀k,i<=k->∀j,at2 (clearGo O c t rows i) k j=at2 rows k j)
 |0,_=>⟨fun _ _ _ _ _=>rfl,fun _=>rfl,fun k hk=>U0,fun _ _ _=>rfl⟩
 | i + 1,hi => by
   have hq:=h.q1
   obtain⟨o,f,r,s⟩:=clear_at h C z A B i U0
   obtain⟨_,g⟩:=qdJ h.self C z A i U0
   unfold clearGo
   split
   . rename_i hne
     obtain⟨l,p⟩:=hne
     generalize clearGo O c t rows i=R at *
     have b:i<R.length:=by rw[g.1];omega
     obtain⟨u,v⟩:=g.row (i:=i) U0
     obtain⟨x,y⟩:=g.row A
     have d:∀j,j<cols->(addRow O (R.getD i []) (O.neg (at2 R i c)) (R.getD t [])).getD j 0=if at2 R t j=0 then at2 R i j else O.add (at2 R i j) (O.mul (O.neg (at2 R i c)) (at2 R t j)):=fun j hj=>addRow_at U0 U0
     refine⟨fun k hk j hj h0=>?_,fun j=>?_,fun k hk hkt=>?_,fun k hk j=>?_⟩
     . rw [at2_set b]
       split
       . rename_i e
         subst e
         rw[d j hj,if_pos (by rw[f j];exact h0)]
         exact o k hk j hj h0
       . exact o k hk j hj h0
     . rw[at2_set b,if_neg (fun e=>l e.symm)]
       exact f j
     . rw [at2_set b]
       split
       . rename_i e
         subst e
         rw[d c z,f c,B,if_neg U0]
         have m:=g.at_ (i:=k) (c:=c) U0 z
         rw[h.mulC _ _ (h.negL _ m) h.q1,h.mulU _ (h.negL _ m),h.addN _ m]
       . exact r k U0 hkt
     . rw[at2_set b,if_neg U0]
       exact s k U0 j
   . rename_i hne
     refine⟨o,f,fun k hk hkt=>?_,fun k hk j=>s k U0 j⟩
     by_cases e:k=i
     . subst e
       refine Classical.byContradiction fun p=>hne ⟨hkt,p⟩
     . exact r k U0 hkt
theorem unit_elim(h:Fld q O){n cols:Nat}{rows:LL}(hG:Grid q n cols rows):∀ c,c<=cols->UnitC (elGo O rows c).piv.length (elGo O rows c).rows (elGo O rows c).piv
 |0,_=>fun i _ k hk=>by simp[elGo] at hk
 | c + 1,hc => by
   have ih:=unit_elim h hG c U0
   obtain⟨_,g⟩:=qdT h.self hG c U0
   have C:=elGo_piv_lt O rows c
   have Z:=h.q1
   unfold elGo
   generalize elGo O rows c=s at *
   unfold elStep
   by_cases H:s.piv.length<s.rows.length
   . simp only [if_pos H]
     have X:=qdF s.rows c (s.rows.length-s.piv.length) s.piv.length
     by_cases I:findRow s.rows c (s.rows.length-s.piv.length) s.piv.length=s.rows.length
     . simp only[if_pos I]
       exact ih
     . simp only [if_neg I]
       have y:=qcF s.rows c (s.rows.length-s.piv.length) s.piv.length U0
       generalize findRow s.rows c (s.rows.length-s.piv.length) s.piv.length=k at *
       have B:=g.1
       have A:∀a,a<s.piv.length->s.piv.getD a 0<cols:=fun a f=>by
        have W:=C (s.piv.getD a 0) (by rw[getD_at f];exact List.getElem_mem f)
        omega
       have u:=qdC g (i:=s.piv.length) (j:=k) U0 U0
       have r:at2 (swapRows s.rows s.piv.length k) s.piv.length c≠0:=by
        unfold at2 at y ⊢
        rw[qfE U0 U0]
        exact y
       have V:UnitC s.piv.length (swapRows s.rows s.piv.length k) s.piv:=by
        intro i m a f
        have l:i<s.rows.length:=by unfold swapRows at m;simpa using m
        have L:=ih k U0 a f
        have M:=ih s.piv.length U0 a f
        rw[if_neg U0] at L M
        unfold swapRows
        rw[at2_set so,at2_set U0]
        by_cases D:i=k
        . rw[if_pos D,if_neg U0]
          exact M
        . rw [if_neg D]
          by_cases E:i=s.piv.length
          . rw[if_pos E,if_neg U0]
            exact L
          . rw[if_neg E]
            exact ih i l a f
       have S:(swapRows s.rows s.piv.length k).length=n:=by rw[u.1]
       generalize swapRows s.rows s.piv.length k=d at *
       obtain⟨_,v⟩:=qfL h.self u (i:=s.piv.length) U0 U0 r
       have o:∀ i,i<n->∀ j,j<cols->at2 (normRow O d s.piv.length c) i j=if i=s.piv.length then (if at2 d s.piv.length c=1 then at2 d i j else O.mul (O.inv (at2 d s.piv.length c)) (at2 d i j)) else at2 d i j:=by
        intro i m j R
        unfold normRow
        by_cases e:at2 d s.piv.length c=1
        . rw[if_pos e]
          by_cases b:i=s.piv.length
          . rw[if_pos b,if_pos e]
          . rw[if_neg b]
        . rw [if_neg e,at2_set U0]
          by_cases b:i=s.piv.length
          . rw[if_pos b,if_pos b,if_neg e]
            obtain⟨U,_⟩:=u.row (i:=s.piv.length) U0
            rw[getD_at (by unfold scaleRow;rw[List.length_map,U];exact R)]
            unfold scaleRow
            rw[List.getElem_map,<- getD_at]
            rw[b]
            rfl
          . rw[if_neg b,if_neg b]
       have J:at2 (normRow O d s.piv.length c) s.piv.length c=1:=by
        rw[o _ U0 c U0,if_pos rfl]
        by_cases e:at2 d s.piv.length c=1
        . rw[if_pos e]
          exact e
        . rw[if_neg e]
          have p:=u.at_ (i:=s.piv.length) (c:=c) U0 U0
          rw[h.mulC _ _ (h.invL _ p r) p,h.inv _ p r]
       have K:UnitC s.piv.length (normRow O d s.piv.length c) s.piv:=by
        intro i m a f
        rw[v.1] at m
        have z:=V i U0 a f
        rw[o i m _ (A a f)]
        by_cases e:i=s.piv.length
        . have x : ¬ i = a := by omega
          rw[if_neg x] at z
          rw[if_pos e,if_neg x]
          by_cases b:at2 d s.piv.length c=1
          . rw[if_pos b]
            exact z
          . rw[if_neg b,z]
            have p:=u.at_ (i:=s.piv.length) (c:=c) U0 U0
            rw[h.mulC _ _ (h.invL _ p r) U0,h.mulZ _ (h.invL _ p r)]
        . rw[if_neg e]
          exact z
       generalize normRow O d s.piv.length c=T at *
       obtain⟨c1,c2,N,_⟩:=clear_at h v (t:=s.piv.length) (by omega:c<cols) U0 J n zn
       obtain⟨_,P⟩:=qdJ h.self v (c:=c) (t:=s.piv.length) U0 U0 n zn
       rw[B]
       intro i m a f
       show at2 (clearGo O c s.piv.length T n) i ((s.piv++[c]).getD a 0)=_
       have l:i<n:=by rw[<- P.1];exact m
       have Q:a<s.piv.length+1:=by simpa using f
       by_cases e:a=s.piv.length
       . rw [show (s.piv ++ [c]).getD a 0 = c by rw [e];simp [List.getD]]
         by_cases b:i=a
         . rw[if_pos b,b,e,c2 c,J]
         . rw[if_neg b]
           exact N i l U0
       . rw[show(s.piv ++ [c]).getD a 0 = s.piv.getD a 0 by simp only[List.getD];rw[List.getElem?_append_left U0]]
         have z:=K s.piv.length (by rw[v.1];omega) a U0
         rw[if_neg U0] at z
         rw[c1 i l _ (A a U0) z]
         exact K i (by rw[v.1];omega) a U0
   . simp only[if_neg H]
     exact ih
theorem qeZ(h:Fld q O){n cols:Nat}{rows:LL}(b:Grid q n cols rows){i k:Nat}(c:i<(elGo O rows cols).piv.length)(d:k<(elGo O rows cols).piv.length):at2 (canonM O rows cols) i ((elGo O rows cols).piv.getD k 0)=if i=k then 1 else 0:=by unfold at2;rw[canonM_getD O rows cols i c];exact unit_elim h b cols zn i (by have:=(elGo_piv (O:=O) rows cols).2;rw[elGo_len];omega) k d
end
end Al
namespace Al
section
variable {q:Nat} {O:Ops} {h:Fld q O}
theorem wd_set{v:LN}{p y j:Nat}(b:p<v.length):wd h (v.set p y) j=if j=p then El.of h y else wd h v j:=by
 unfold wd;by_cases e:j=p
 . subst e;rw[if_pos rfl];simp[List.getD,b]
 . rw[if_neg e];simp only[List.getD];rw[List.getElem?_set_ne (fun e2=>e e2.symm)]
theorem dot_set{n p y:Nat}{f:Nat->El q O h}{v:LN}(i:v.length=n)(g:p<n)(d:wd h v p=0):sm n (fun j=>f j*wd h (v.set p y) j)=sm n (fun j=>f j*wd h v j)+f p*El.of h y:=by
 have H:=El.fd (h:=h);have e:sm n (fun j=>f j*wd h (v.set p y) j)=sm n (fun j=>f j*wd h v j+(if j=p then f p*El.of h y else 0)):=by
  refine H.sm_congr fun j c=>?_;rw[wd_set U0];by_cases b:j=p
  . subst b;rw[if_pos rfl,if_pos rfl,d,H.mulZ,H.addZ]
  . rw[if_neg b,if_neg b,H.zadd]
 rw[e,H.sm_add];congr 1;rw[H.sm_one g]
 . rw[if_pos rfl]
 . intro j _ c;rw[if_neg c]
theorem kerK_at{rows:LL}{piv:LN}{cols c j:Nat}(f:j≠c):∀ t,(∀ k,k<t->piv.getD k 0≠j)->wd h (kerK O rows piv cols c t) j=0
 | 0,_ => by
   unfold kerK wd
   have:((List.replicate cols 0).set c 1).getD j 0=0:=by
    simp only[List.getD]
    rw[List.getElem?_set_ne (fun e=>f e.symm),List.getElem?_replicate]
    split<;>rfl
   rw[this,El.of_zero]
 | t + 1,hk => by
   have d:=kerK_at (rows:=rows) (piv:=piv) (cols:=cols) f t (fun k hk2=>hk k U0)
   have b:=hk t U0
   unfold kerK
   unfold wd at d ⊢
   have e:((kerK O rows piv cols c t).set (piv.getD t 0) (O.neg ((rows.getD t []).getD c 0))).getD j 0=(kerK O rows piv cols c t).getD j 0:=by
    simp only[List.getD] at b ⊢
    rw[List.getElem?_set_ne b]
   rw[e,d]
theorem ker_dot{m:LL}{piv:LN}{r cols c:Nat}(u:Grid q r cols m)(s:∀ i k,i<r->k<r->at2 m i (piv.getD k 0)=if i=k then 1 else 0)(p:c<cols)(n:∀ k,k<r->piv.getD k 0≠c)(o:∀ k,k<r->piv.getD k 0<cols){i:Nat}(v:i<r):
 ∀t,t<=r->sm cols (fun j=>wd h (m.getD i []) j*wd h (kerK O m piv cols c t) j)=wd h (m.getD i []) c+sm t (fun k=>wd h (m.getD i []) (piv.getD k 0)*-wd h (m.getD k []) c)
 | 0,_ => by
   have H:=El.fd (h:=h)
   rw[H.sm_one p]
   . have : wd h (kerK O m piv cols c 0) c = 1 := by
      unfold kerK wd
      have:((List.replicate cols 0).set c 1).getD c 0=1:=by simp[List.getD,p]
      rw[this,El.of_one]
     rw[this,H.umul]
     exact(H.zadd _).symm
   . intro j _ f
     rw[kerK_at f 0 (fun k hk=>U0),H.mulZ]
 | t + 1,ht => by
   have H:=El.fd (h:=h)
   have l:=ker_dot u s p n o v t U0
   have hd:∀k,k<t->piv.getD k 0≠piv.getD t 0:=fun k hk e=>by
    have b:=s k k U0 U0
    have d:=s k t U0 U0
    rw[if_pos rfl] at b
    rw[if_neg U0,<- e,b] at d
    omega
   have g:=u.at_ (i:=t) (c:=c) U0 p
   show sm cols (fun j=>wd h (m.getD i []) j*wd h ((kerK O m piv cols c t).set (piv.getD t 0) (O.neg ((m.getD t []).getD c 0))) j)=wd h (m.getD i []) c+(sm t (fun k=>wd h (m.getD i []) (piv.getD k 0)*-wd h (m.getD k []) c)+wd h (m.getD i []) (piv.getD t 0)*-wd h (m.getD t []) c)
   rw[dot_set (kerK_len _ _ _ _ _ _) (o t U0) (kerK_at (n t U0) t hd),l,H.addA]
   congr 2
   rw[El.of_neg (by exact g)]
   rfl
theorem ker_orth{n cols:Nat}{rows:LL}(z:Grid q n cols rows):∀u∈kerM O rows cols,∀g∈canonM O rows cols,sm cols (fun j=>wd h g j*wd h u j)=0:=by
 have H:=El.fd (h:=h);have E:=h.self;have m:=canon_grid E z;have v:=kerRows_grid (piv:=(elGo O rows cols).piv) E h.q1 m rfl;have L:LinF q O h fun f=>∀g∈canonM O rows cols,sm cols (fun j=>wd h g j*f j)=0:=by
  refine⟨fun g _=>H.sm_zero fun j _=>H.mulZ _,fun f g a hf hg u hu=>?_⟩;have e:sm cols (fun j=>wd h u j*(f j+a*g j))=sm cols (fun j=>wd h u j*f j+a*(wd h u j*g j)):=H.sm_congr fun j _=>by rw[H.dist,<- H.mulA,<- H.mulA,H.mulC a]
  rw[e,H.sm_lin,hf u hu,hg u hu,H.mulZ,H.addZ]
 unfold kerM;refine L.canon v fun u hu g hg=>?_;unfold kerRows at hu;obtain⟨c,y,rfl⟩:=List.mem_map.1 hu;have l:=List.mem_filter.1 y;have s:c<cols:=by simpa using l.1
 have t:c∉(elGo O rows cols).piv:=by have:=l.2;simpa using this
 obtain⟨i,r,rfl⟩:=List.mem_iff_getElem.1 hg;have b:i<(elGo O rows cols).piv.length:=by rw[<- canonM_len];exact r
 have e:(canonM O rows cols)[i]=(canonM O rows cols).getD i []:=by simp[List.getD,r]
 have p:∀k,k<(elGo O rows cols).piv.length->(elGo O rows cols).piv.getD k 0∈(elGo O rows cols).piv:=fun k d=>by rw[getD_at d];exact List.getElem_mem d
 rw[e,ker_dot m (fun i k r d=>qeZ h z r d) s (fun k d e=>t (by rw[<- e];exact p k d)) (fun k d=>elGo_piv_lt O rows cols _ (p k d)) b _ zn];have o:sm (elGo O rows cols).piv.length (fun k=>wd h ((canonM O rows cols).getD i []) ((elGo O rows cols).piv.getD k 0)*-wd h ((canonM O rows cols).getD k []) c)=-wd h ((canonM O rows cols).getD i []) c:=by
  rw[H.sm_one b]
  . rw[<- qcJ,qeZ h z b b,if_pos rfl,El.of_one,H.mulU]
  . intro k d x;rw[<- qcJ,qeZ h z b d,if_neg (fun e=>x e.symm),El.of_zero,H.zmul]
 rw[o,H.addN]
def fnz:LN->Nat
 |[]=>0
 |x :: r=>if x=0 then fnz r else x
def colOf(hs:LL)(j:Nat):LN:=hs.map fun r=>r.getD j 0
def normC(O:Ops)(col:LN):LN:=scaleRow O (O.inv (fnz col)) col
def ColsOk(O:Ops)(hs:LL)(n:Nat)(b:Bool):Prop:=(∀j,j<n->fnz (colOf hs j)≠0)/\(b=true->∀i j,i<j->j<n->normC O (colOf hs i)≠normC O (colOf hs j))
theorem fnz_lt(b:0<q):∀ l:LN,(∀ x∈l,x<q)->fnz l<q
 |[],_=>b
 |x :: r,h=>by
   unfold fnz
   split
   . exact fnz_lt b r fun y hy=>h y (List.mem_cons_of_mem _ hy)
   . exact h x List.mem_cons_self
theorem col_len(b:LL)(j:Nat):(colOf b j).length=b.length:=by simp[colOf]
theorem col_lt(g:0<q){d:LL}(f:∀r∈d,∀x∈r,x<q)(j:Nat):∀x∈colOf d j,x<q:=by intro x b;unfold colOf at b;obtain⟨r,c,rfl⟩:=List.mem_map.1 b;exact getD_ok (f r c) g j
theorem ev_zeros(H:Fd (El q O h))(x:El q O h):∀ k,ev (List.replicate k 0) x=0
 |0=>rfl
 |k + 1=>by
   show 0+x*ev (List.replicate k 0) x=0
   rw[ev_zeros H x k,H.mulZ,H.addZ]
theorem ev_mono(H:Fd (El q O h)):∀ (k n:Nat),k<n->∃ l:List (El q O h),l.length=n/\∀ x,ev l x=pwr x k:=fun k n hk=>by
 have b:∀ (x:El q O h)(k:Nat)(l:List (El q O h)),ev (List.replicate k 0++l) x=pwr x k*ev l x:=by
  intro x k
  induction k with
  |zero=>intro l;exact(H.mulU _).symm
  |succ k ih=>
    intro l
    show 0+x*ev (List.replicate k 0++l) x=pwr x k*x*ev l x
    rw[ih,H.addZ,<- H.mulA,H.mulC x]
 refine⟨List.replicate k 0++1 :: List.replicate (n-k-1) 0,so,fun x=>?_⟩
 rw[b]
 show pwr x k*(1+x*ev (List.replicate (n-k-1) 0) x)=_
 rw[ev_zeros H,H.mulZ,H.zadd,H.umul]
end
end Al
namespace Al
section
variable {q:Nat} {O:Ops} {h:Fld q O}
def cst(h:Fld q O):Nat->El q O h
 |0=>0
 |n+1=>cst h n+1
theorem qdO(a:Nat):∀ b,cst h (a+b)=cst h a+cst h b
 |0=>((El.fd (h:=h)).zadd _).symm
 |b + 1=>by
   show cst h (a+b)+1=cst h a+(cst h b+1)
   rw[qdO a b,(El.fd (h:=h)).addA]
theorem cst_mul(a:Nat):∀ b,cst h (a*b)=cst h a*cst h b
 |0=>((El.fd (h:=h)).mulZ _).symm
 |b + 1=>by
   have H:=El.fd (h:=h)
   rw[Nat.mul_succ,qdO,cst_mul a b]
   show _=cst h a*(cst h b+1)
   rw[H.dist,H.umul]
structure Chr (q:Nat) (O:Ops) (h:Fld q O) (p:Nat):Prop where
 p1:2<=p
 pq:p<=q
 add:∀a b,a<p->b<p->O.add a b=(a+b) % p
section
variable {p:Nat} (C:Chr q O h p)
theorem Chr.of(C:Chr q O h p):∀ x,x<p->El.of h x=cst h x
 |0,_=>El.of_zero
 |x + 1,hx=>by
   have hp1:=C.p1
   have b:=C.pq
   have c:=Chr.of C x U0
   have e:=C.add x 1 U0 U0
   rw[Nat.mod_eq_of_lt hx] at e
   show El.of h (x+1)=cst h x+1
   rw[<- c,<- El.of_one,<- El.of_add U0 U0,e]
theorem Chr.zero(C:Chr q O h p):cst h p=0:=by have d:=C.p1;have f:=C.pq;have e:=C.add (p-1) 1 U0 U0;rw[show p-1+1=p by omega,Nat.mod_self] at e;have b:=El.of_add (h:=h) (x:=p-1) (y:=1) U0 U0;have c:El.of h (p-1)=cst h (p-1):=C.of _ U0;rw[e,c,El.of_zero,El.of_one] at b;rw[show p=p-1+1 by omega];exact b.symm
theorem Chr.mod(C:Chr q O h p)(n:Nat):cst h (n % p)=cst h n:=by
 have H:=El.fd (h:=h);have e:cst h n=cst h (p*(n / p)+n % p):=by rw[Nat.div_add_mod]
 rw[e,qdO,cst_mul,C.zero,H.zmul,H.addZ]
end
def Es(h:Fld q O)(r:El q O h)(m:Nat)(l:LN):El q O h:=sm m fun j=>cst h (l.getD j 0)*pwr r j
theorem Es_step{p m:Nat}(C:Chr q O h p){r:El q O h}{md a s:LN}{bi:Nat}(v:0<m)(t:Dig p m s)(u:Es h r m md+pwr r m=0):
 Es h r m (stepM p m md a bi s)=r*Es h r m s+cst h bi*Es h r m a:=by
 have H:=El.fd (h:=h);obtain⟨k,rfl⟩:∃k,m=k+1:=⟨m-1,U0⟩;have b:=Pln.getD_lt (by have:=C.p1;omega) t k;have l:cst h (p-s.getD k 0)=-cst h (s.getD k 0):=by refine H.negu ?_;rw[<- qdO,show s.getD k 0+(p-s.getD k 0)=p by omega,C.zero]
 have c:Es h r (k+1) (stepM p (k+1) md a bi s)=sm (k+1) (fun j=>(cst h (if j=0 then 0 else s.getD (j-1) 0)*pwr r j+-cst h (s.getD k 0)*(cst h (md.getD j 0)*pwr r j))+cst h bi*(cst h (a.getD j 0)*pwr r j)):=by
  unfold Es;refine H.sm_congr fun j hj=>?_;have e:(stepM p (k+1) md a bi s).getD j 0=((if j=0 then 0 else s.getD (j-1) 0)+(p-s.getD k 0)*md.getD j 0+bi*a.getD j 0) % p:=by unfold stepM;simp[List.getD,hj]
  rw[e,C.mod,qdO,qdO,cst_mul,cst_mul,l,H.rdist,H.rdist,H.mulA,H.mulA]
 have d:sm (k+1) (fun j=>cst h (if j=0 then 0 else s.getD (j-1) 0)*pwr r j)+cst h (s.getD k 0)*pwr r (k+1)=r*Es h r (k+1) s:=by
  unfold Es;rw[<- H.sm_mul];have f:∀n,sm (n+1) (fun j=>cst h (if j=0 then 0 else s.getD (j-1) 0)*pwr r j)=sm n (fun j=>r*(cst h (s.getD j 0)*pwr r j)):=by
   intro n;induction n with
   |zero=>show 0+cst h (if 0=0 then 0 else s.getD (0-1) 0)*pwr r 0=0;rw[if_pos rfl];show 0+0*pwr r 0=(0:El q O h);rw[H.zmul,H.addZ]
   |succ n ih=>show sm (n+1) (fun j=>cst h (if j=0 then 0 else s.getD (j-1) 0)*pwr r j)+cst h (if n+1=0 then 0 else s.getD (n+1-1) 0)*pwr r (n+1)=sm n (fun j=>r*(cst h (s.getD j 0)*pwr r j))+r*(cst h (s.getD n 0)*pwr r n);rw[ih,if_neg U0];congr 1;show cst h (s.getD n 0)*(pwr r n*r)=_;rw[<- H.mulA,H.mulC]
  rw[f k];show _+cst h (s.getD k 0)*(pwr r k*r)=sm k (fun j=>r*(cst h (s.getD j 0)*pwr r j))+r*(cst h (s.getD k 0)*pwr r k);congr 1;rw[<- H.mulA,H.mulC]
 rw[c,H.sm_lin,H.sm_lin];congr 1;have g:sm (k+1) (fun j=>cst h (md.getD j 0)*pwr r j)=-pwr r (k+1):=by refine H.negu ?_;rw[H.addC];exact u
 rw[g,H.negm,H.mneg];have o:∀x y:El q O h,x+y+-y=x:=fun x y=>by rw[H.addA,H.addN,H.zadd]
 have i:=fun x=>(H.negu (H.nadd x)).symm;rw[i,d]
theorem qdH{f:Nat->El q O h}:∀ n,sm (n+1) f=f 0+sm n fun j=>f (j+1)
 |0=>by
   have H:=El.fd (h:=h)
   show 0+f 0=f 0+0
   rw[H.addZ,H.zadd]
 |n + 1=>by
   have H:=El.fd (h:=h)
   show sm (n+1) f+f (n+1)=f 0+(sm n (fun j=>f (j+1))+f (n+1))
   rw[qdH n,H.addA]
theorem Es_ev(r:El q O h):∀ l:LN,ev (l.map (cst h)) r=Es h r l.length l
 |[]=>rfl
 | x :: l => by
   have H:=El.fd (h:=h)
   unfold Es
   rw[List.length_cons,qdH]
   show cst h x+r*ev (l.map (cst h)) r=_
   rw[Es_ev r l]
   congr 1
   . show _ = cst h x * 1
     rw[H.umul]
   . unfold Es
     rw[<- H.sm_mul]
     refine H.sm_congr fun j _=>?_
     show r*(cst h (l.getD j 0)*pwr r j)=cst h (l.getD j 0)*(pwr r j*r)
     rw[H.mulC r,H.mulA]
theorem Es_mul{p m:Nat}(C:Chr q O h p){r:El q O h}{md a:LN}(c:0<m)(d:Es h r m md+pwr r m=0):∀ b:LN,Es h r m (Pln.mulL p m md a b)=Es h r m a*ev (b.map (cst h)) r
 |[]=>by
   have H:=El.fd (h:=h)
   show Es h r m (List.replicate m 0)=Es h r m a*0
   rw[H.mulZ]
   refine H.sm_zero fun j hj=>?_
   have:(List.replicate m 0).getD j 0=0:=by simp[List.getD,hj]
   rw[this]
   exact H.zmul _
 |x :: b=>by
   have H:=El.fd (h:=h)
   show Es h r m (stepM p m md a x (Pln.mulL p m md a b))=Es h r m a*(cst h x+r*ev (b.map (cst h)) r)
   rw[Es_step C c (qaW (by have:=C.p1;omega) md a b) d,Es_mul C c d b,H.dist,H.addC,H.mulC (cst h x)]
   congr 1
   rw[<- H.mulA,<- H.mulA,H.mulC r]
structure Emb {p m m1:Nat} {l l1 md md1:LN} (hF:FT p m md l) (hF1:FT p m1 md1 l1) (r:El (p^m) (opsT p m l) (fld_of hF)):Prop where
 root:Es (fld_of hF) r m1 md1+pwr r m1=0
end
section
variable {p m m1:Nat} {l l1 md md1:LN} {hF:FT p m md l} {hF1:FT p m1 md1 l1} {r:El (p^m) (opsT p m l) (fld_of hF)}
theorem chr_of(hF:FT p m md l):Chr (p^m) (opsT p m l) (fld_of hF) p where
 p1:=hF.small.p1
 pq:=Nat.le_self_pow (by have:=hF.small.m1;omega) p
 add a b ha hb:=addD_small (by have:=hF.small.p1;omega) hF.small.m1 ha hb
def im(hF:FT p m md l)(m1:Nat)(r:El (p^m) (opsT p m l) (fld_of hF))(x:Nat):El (p^m) (opsT p m l) (fld_of hF):=Es (fld_of hF) r m1 (digs p m1 x)
theorem im_add(x y:Nat):im hF m1 r (addD p m1 x y)=im hF m1 r x+im hF m1 r y:=by
 have H:=El.fd (h:=fld_of hF);have d:0<p:=by have:=hF.small.p1;omega
 unfold im Es;rw[digs_add d,<- H.sm_add];refine H.sm_congr fun j hj=>?_;have e:(zw p (digs p m1 x) (digs p m1 y)).getD j 0=((digs p m1 x).getD j 0+(digs p m1 y).getD j 0) % p:=by
  have b:j<(digs p m1 x).length:=by rw[qaK];exact hj
  have c:j<(digs p m1 y).length:=by rw[qaK];exact hj
  rw[getD_at b,getD_at c,getD_at (by unfold zw;rw[List.length_zipWith];omega)];unfold zw;rw[List.getElem_zipWith]
 rw[e,(chr_of hF).mod,qdO,H.rdist]
theorem im_mul(c:Emb hF hF1 r){x y:Nat}(d:x<p^m1)(f:y<p^m1):im hF m1 r ((opsT p m1 l1).mul x y)=im hF m1 r x*im hF m1 r y:=by
 have b:1<p:=by have:=hF.small.p1;omega
 have e:(opsT p m1 l1).mul x y=mulM p m1 md1 x y:=hF1.tab.mul_eq (qaV b hF1.small.m1 md1) d f;unfold im;rw[e,mulM_dig U0,Es_mul (chr_of hF) hF1.small.m1 c.root,Es_ev,qaK]
theorem im_zero:im hF m1 r 0=0:=by have H:=El.fd (h:=fld_of hF);have h:=im_add (hF:=hF) (m1:=m1) (r:=r) 0 0;rw[addD_zero] at h;exact H.cancel (x:=im hF m1 r 0) (by rw[<- h,H.zadd])
theorem im_one(g:0<m1):im hF m1 r 1=1:=by
 have H:=El.fd (h:=fld_of hF);have b:1<p:=by have:=hF.small.p1;omega
 obtain⟨k,rfl⟩:∃k,m1=k+1:=⟨m1-1,U0⟩;unfold im Es;have e:digs p (k+1) 1=1 :: digs p k 0:=by show(1 % p :: digs p k (1 / p))=_;rw[Nat.mod_eq_of_lt b,Nat.div_eq_of_lt b]
 rw[e,H.sm_one (i:=0) U0]
 . show(cst (fld_of hF) 0+1)*1=1;rw[H.umul];exact H.addZ 1
 . intro j f d;obtain⟨i,rfl⟩:∃i,j=i+1:=⟨j-1,U0⟩;(have c:(1 :: digs p k 0).getD (i+1) 0=0:=by have:=congrFun (F_digs_zero p k) i;unfold F at this;show(digs p k 0).getD i 0=0;omega);rw[c];exact H.zmul _
theorem im_ne(g:Emb hF hF1 r){x:Nat}(d:x<p^m1)(f:x≠0):im hF m1 r x≠0:=fun e=>by
 have H:=El.fd (h:=fld_of hF)
 have b:=fld_of hF1
 have c:=im_mul g d (b.invL x d f)
 rw[b.inv x d f,im_one hF1.small.m1,e,H.zmul] at c
 exact H.ne c
def phi(hF:FT p m md l)(hF1:FT p m1 md1 l1)(r:El (p^m) (opsT p m l) (fld_of hF))(x:El (p^m1) (opsT p m1 l1) (fld_of hF1)):El (p^m) (opsT p m l) (fld_of hF):=im hF m1 r x.n
theorem phi_add(x y:El (p^m1) (opsT p m1 l1) (fld_of hF1)):phi hF hF1 r (x+y)=phi hF hF1 r x+phi hF hF1 r y:=im_add x.n y.n
theorem phi_mul(b:Emb hF hF1 r)(x y:El (p^m1) (opsT p m1 l1) (fld_of hF1)):phi hF hF1 r (x*y)=phi hF hF1 r x*phi hF hF1 r y:=im_mul b x.lt y.lt
theorem phi_zero:phi hF hF1 r 0=0:=im_zero
theorem phi_ne(c:Emb hF hF1 r){x:El (p^m1) (opsT p m1 l1) (fld_of hF1)}(b:x≠0):phi hF hF1 r x≠0:=im_ne c x.lt fun e=>b (El.eq e)
end
end Al
namespace Al
def ns:Nat->(Nat->Nat)->Nat
 |0,_=>0
 |n+1,f=>ns n f+f n
theorem qfK{n:Nat}{f g:Nat->Nat}(h:∀j,j<n->f j=g j):ns n f=ns n g:=by
 induction n with
 |zero=>rfl
 |succ n ih=>show ns n f+f n=ns n g+g n;rw[ih fun j hj=>h j U0,h n U0]
theorem ns_le{n:Nat}{f g:Nat->Nat}(h:∀j,j<n->f j<=g j):ns n f<=ns n g:=by
 induction n with
 |zero=>exact Nat.le_refl _
 |succ n ih=>exact Nat.add_le_add (ih fun j hj=>h j U0) (h n U0)
theorem ns_add(n:Nat)(f g:Nat->Nat):ns n (fun j=>f j+g j)=ns n f+ns n g:=by
 induction n with
 |zero=>rfl
 |succ n ih=>show ns n (fun j=>f j+g j)+(f n+g n)=(ns n f+f n)+(ns n g+g n);omega
theorem ns_zero{n:Nat}{f:Nat->Nat}(h:∀j,j<n->f j=0):ns n f=0:=by
 induction n with
 |zero=>rfl
 |succ n ih=>show ns n f+f n=0;rw[ih fun j hj=>h j U0,h n U0]
theorem ns_eq_zero{n:Nat}{f:Nat->Nat}(h:ns n f=0):∀j,j<n->f j=0:=by
 induction n with
 |zero=>intro j b;omega
 |succ n ih=>
  have c:ns n f+f n=0:=h;intro j b;by_cases e:j=n
  . subst e;omega
  . exact ih U0 j U0
theorem ns_swap(n m:Nat)(f:Nat->Nat->Nat):ns n (fun j=>ns m (fun i=>f i j))=ns m (fun i=>ns n (fun j=>f i j)):=by
 induction m with
 |zero=>exact ns_zero fun _ _=>rfl
 |succ m ih=>show ns n (fun j=>ns m (fun i=>f i j)+f m j)=ns m (fun i=>ns n (fun j=>f i j))+ns n (fun j=>f m j);rw[ns_add,ih]
theorem ns_split(n m:Nat)(f:Nat->Nat):ns (n+m) f=ns n f+ns m (fun j=>f (n+j)):=by
 induction m with
 |zero=>rfl
 |succ m ih=>show ns (n+m) f+f (n+m)=ns n f+(ns m (fun j=>f (n+j))+f (n+m));omega
theorem ns_blocks(n m:Nat)(f:Nat->Nat):ns (n*m) f=ns n (fun i=>ns m (fun j=>f (i*m+j))):=by
 induction n with
 |zero=>rw[Nat.zero_mul];rfl
 |succ n ih=>rw[Nat.succ_mul,ns_split,ih];rfl
theorem ns_front(n:Nat)(f:Nat->Nat):ns (n+1) f=f 0+ns n (fun j=>f (j+1)):=by
 induction n with
 |zero=>show 0+f 0=f 0+0;omega
 |succ n ih=>show ns (n+1) f+f (n+1)=f 0+(ns n (fun j=>f (j+1))+f (n+1));omega
theorem ns_at{n i:Nat}{f:Nat->Nat}(b:i<n):f i<=ns n f:=by
 induction n with
 |zero=>omega
 |succ n ih=>
  show f i<=ns n f+f n;by_cases e:i=n
  . subst e;omega
  . have:=ih U0;omega
section
variable {q:Nat} {O:Ops} {h:Fld q O}
def wf(n:Nat)(f:Nat->El q O h):Nat:=ns n fun j=>if(f j).n=0 then 0 else 1
theorem El.n_zero{x:El q O h}:x.n=0 ↔ x=0:=⟨fun e=>El.eq e,fun e=>by rw[e];rfl⟩
theorem qcW{n:Nat}{f:Nat->El q O h}(b:∀j,j<n->f j=0):wf n f=0:=ns_zero fun j hj=>by rw[if_pos (El.n_zero.2 (b j hj))]
theorem wf_eq_zero{n:Nat}{f:Nat->El q O h}(c:wf n f=0):∀j,j<n->f j=0:=fun j hj=>by
 have b:=ns_eq_zero c j hj
 refine El.n_zero.1 (Classical.byContradiction fun hne=>?_)
 rw[if_neg hne] at b
 omega
theorem wf_congr{n:Nat}{f g:Nat->El q O h}(b:∀j,j<n->f j=g j):wf n f=wf n g:=qfK fun j hj=>by rw[b j hj]
theorem wf_blocks(n m:Nat)(f:Nat->El q O h):wf (n*m) f=ns n (fun i=>wf m (fun j=>f (i*m+j))):=ns_blocks n m _
theorem wf_wt:∀ {w:LN},(∀ x∈w,x<q)->wf w.length (wd h w)=Dv.wt w
 |[],_=>rfl
 |x :: r,hw=>by
   have ih:=wf_wt (w:=r) fun y hy=>hw y (List.mem_cons_of_mem _ hy)
   unfold wf
   rw[List.length_cons,ns_front]
   have b:(wd h (x :: r) 0).n=x:=El.of_n (hw x List.mem_cons_self)
   show(if(wd h (x :: r) 0).n=0 then 0 else 1)+wf r.length (wd h r)=_
   rw[b,ih]
   rfl
def InC(h:Fld q O)(n:Nat)(G:LL)(f:Nat->El q O h):Prop:=∃c:Nat->El q O h,∀j,j<n->f j=sm G.length fun i=>c i*wd h (G.getD i []) j
theorem inC_lin(n:Nat)(G:LL):LinF q O h (InC h n G) where
 zero:=⟨fun _=>0,fun j _=>((El.fd (h:=h)).sm_zero fun i _=>(El.fd (h:=h)).zmul _).symm⟩
 step f g a hf hg:=by
  have H:=El.fd (h:=h)
  obtain⟨c,b⟩:=hf
  obtain⟨d,hd⟩:=hg
  refine⟨fun i=>c i+a*d i,fun j hj=>?_⟩
  show f j+a*g j=_
  rw[b j hj,hd j hj,<- H.sm_lin]
  refine H.sm_congr fun i _=>?_
  show _=(c i+a*d i)*_
  rw[H.rdist,H.mulA]
theorem InC.congr{n:Nat}{G:LL}{f g:Nat->El q O h}(i:InC h n G f)(d:∀j,j<n->f j=g j):InC h n G g:=by obtain⟨c,b⟩:=i;exact⟨c,fun j hj=>by rw[<- d j hj,b j hj]⟩
theorem InC.row{n:Nat}{G:LL}{i:Nat}(b:i<G.length):InC h n G (wd h (G.getD i [])):=by have H:=El.fd (h:=h);refine⟨fun k=>if k=i then 1 else 0,fun _ _=>?_⟩;rw[H.sm_one (i:=i) b fun k _ hk=>by show(if k=i then(1:El q O h) else 0)*_=0;rw[if_neg hk,H.zmul]];show _=(if i=i then(1:El q O h) else 0)*_;rw[if_pos rfl,H.mulU]
theorem InC.mem{n:Nat}{G:LL}{r:LN}(c:r∈G):InC h n G (wd h r):=by obtain⟨i,b,rfl⟩:=List.mem_iff_getElem.1 c;have:=InC.row (h:=h) (n:=n) b;rwa [show G.getD i []=G[i] by simp[List.getD,b]] at this
theorem InC.mul{n:Nat}{G:LL}{f:Nat->El q O h}(a:El q O h)(b:InC h n G f):InC h n G fun j=>a*f j:=
 ((inC_lin n G).step _ _ a (inC_lin n G).zero b).congr fun _ _=>(El.fd (h:=h)).addZ _
theorem InC.add{n:Nat}{G:LL}{f g:Nat->El q O h}(b:InC h n G f)(c:InC h n G g):InC h n G fun j=>f j+g j :=
 ((inC_lin n G).step _ _ 1 b c).congr fun j _=>by
   show f j+1*g j=_
   rw[(El.fd (h:=h)).mulU]
theorem wd_comb{n:Nat}:∀ (rows:LL)(msg out:LN),(∀ r∈rows,Dv.Ok q n r)->msg.length=rows.length->(∀ x∈msg,x<q)->Dv.Ok q n out ->
 ∀j,wd h (Dv.combO O out msg rows) j=wd h out j+sm rows.length fun i=>El.of h (msg.getD i 0)*wd h (rows.getD i []) j
 |[],[],out,_,_,_,_,j=>((El.fd (h:=h)).zadd _).symm
 |[],_ :: _,_,_,hl,_,_,_=>by simp at hl
 |_ :: _,[],_,_,hl,_,_,_=>by simp at hl
 |r :: rs,x :: xs,out,hr,hl,hm,ho,j=>by
   have H:=El.fd (h:=h)
   obtain⟨k,l⟩:=hr r List.mem_cons_self
   have g:=hm x List.mem_cons_self
   have c:=fun y hy=>hr y (List.mem_cons_of_mem _ hy)
   have d:=fun y hy=>hm y (List.mem_cons_of_mem _ hy)
   have b:xs.length=rs.length:=by simpa using hl
   rw[List.length_cons,qdH]
   show wd h (Dv.combO O out (x :: xs) (r :: rs)) j=wd h out j+(El.of h x*wd h r j+sm rs.length fun i=>El.of h (xs.getD i 0)*wd h (rs.getD i []) j)
   unfold Dv.combO
   by_cases f:x=0
   . rw[if_pos f,wd_comb rs xs out c b d ho j,f,El.of_zero,H.zmul,H.addZ]
   . rw[if_neg f,wd_comb rs xs _ c b d ⟨by unfold Pln.addRow;rw[List.length_zipWith,ho.1,k,Nat.min_self],(qdB h.self g ho.2 l).2⟩ j,wd_addRow g ho.2 l (by rw[ho.1,k]),H.addA]
def MinW(h:Fld q O)(n:Nat)(G:LL)(low:Nat):Prop:=∀f,InC h n G f->(∀j,j<n->f j=0)\/low<=wf n f
theorem comb_ok(h:Fld q O){n:Nat}{rows:LL}:∀(msg out:LN),(∀r∈rows,Dv.Ok q n r)->(∀x∈msg,x<q)->Dv.Ok q n out->Dv.Ok q n (Dv.combO O out msg rows):=fun msg out hr hm ho=>
 (LinF.comb (h:=h) (Q:=fun _=>True) ⟨trivial,fun _ _ _ _ _=>trivial⟩ (fun r hm=>⟨hr r hm,trivial⟩) msg out hm ho trivial).2
theorem minW_of{n low:Nat}{G:LL}(u:∀r∈G,Dv.Ok q n r)(v:∀msg:LN,msg.length=G.length->(∀x∈msg,x<q)->Dv.wt (Dv.combO O (List.replicate n 0) msg G)=0\/low<=Dv.wt (Dv.combO O (List.replicate n 0) msg G)):MinW h n G low:=by
 have H:=El.fd (h:=h);rintro f ⟨c,hc⟩;have t:=h.q1;have m:Dv.Ok q n (List.replicate n 0):=Dv.zeros_ok U0;have d:((List.range G.length).map fun i=>(c i).n).length=G.length:=U2;have b:∀x∈(List.range G.length).map fun i=>(c i).n,x<q:=fun x hx=>by obtain⟨i,_,rfl⟩:=List.mem_map.1 hx;exact(c i).lt
 have l:=wd_comb (h:=h) G _ _ u d b m;obtain⟨p,s⟩:=comb_ok h (rows:=G) _ _ u b m;have k:∀i,i<G.length->El.of h (((List.range G.length).map fun i=>(c i).n).getD i 0)=c i:=fun i hi=>by
  have:((List.range G.length).map fun i=>(c i).n).getD i 0=(c i).n:=by simp[List.getD,hi]
  rw[this];exact El.eq (El.of_n (c i).lt)
 have g:=v _ d b;generalize (List.range G.length).map (fun i=>(c i).n)=msg at *;have o:∀j,j<n->wd h (Dv.combO O (List.replicate n 0) msg G) j=f j:=fun j hj=>by rw[l j,qeH,H.addZ,hc j hj];refine H.sm_congr fun i hi=>?_;rw[k i hi]
 have e:Dv.wt (Dv.combO O (List.replicate n 0) msg G)=wf n f:=by rw[<- wf_wt (h:=h) s,p];exact wf_congr o
 rw[e] at g;rcases g with h1|h1
 . exact .inl (wf_eq_zero h1)
 . exact .inr h1
end
end Al
end Go.Proofs.YtocbdafcolbfeaaGreat
namespace Go.Proofs.YtocbdafcolbfeaaGreat
open Go.RowKit Pln Tryz
theorem qbY{W:Wo}{B:Nat}{v:Value}{xs:LI}(y:W.ownsRow B 3 1 v xs.length (xs.map (Value.int .i64)))(D:B<=W.heap.size){zs:LI}{A:OA}{c:Nat}(C:zI W A zs)(E:0<zs.length)(H:xs.length<=1000000)(I:zs.length<=1000000):
 ∃(g c':Nat)(w2:Wo),(Builtin.append_ #[23,23] 23 #[v,zL A zs.length c]).run prog W=.ok (zS g (xs.length+zs.length) c') w2/\Row w2 B g c' (xs++zs)/\Below B W w2/\W.heap.size<=w2.heap.size/\(∀k,k<W.heap.size->v.ownBlock≠some k->w2.heap[k]?=W.heap[k]?)/\(v.ownBlock=some g\/g=W.heap.size):=by
 obtain⟨s,q,j,l,m⟩:=qaF infoInt;obtain⟨b,o,rfl,_,_⟩:=C E;have r:=C.news
 obtain⟨x,w2,f,d,i,_,h⟩:=run_append_own_at (P:=prog) (w:=W) B 23 23 3 s _ 1 8 underlying23 q j l m rfl dc v xs.length (xs.map (Value.int .i64)) y (zA b o) zs.length c (zs.map (Value.int .i64)) U2 r
  (fun u hu=>by obtain⟨z,_,rfl⟩:=List.mem_map.1 hu;rfl) U4 U0 D
 obtain⟨t,n,rfl,p⟩:=own_slice' d;obtain⟨g,rfl⟩:=p U0;refine⟨g,n,w2,f,?_,zV.grown i D (fun k hk=>(y.lt k hk).1),i.size,fun k hk hne=>i.block k hk (fun e=>hne e.symm),?_⟩
 . show w2.ownsRow _ _ _ _ _ _;rw[List.length_append,List.map_append];exact d
 . rcases h with e|e
   . exact .inl e.symm
   . exact .inr (by simpa[Value.ownBlock] using e)
def RowsOwn(w:Wo)(B:Nat)(v:Value)(L:LL):Prop:=∃bs,LGrid w B v L bs L.length
theorem RowsOwn.nil(w:Wo)(B:Nat):RowsOwn w B (zL none 0 0) []:=⟨[],rfl,Nat.le_refl _,World.ownsRow_nil _ _ _ _,fun i hi=>absurd hi (Nat.not_lt_zero i),fun i hi=>absurd hi (Nat.not_lt_zero i)⟩
theorem RowsOwn.of_blocks{w w':Wo}{B:Nat}{v:Value}{L:LL}(h:RowsOwn w B v L)(z:∀ k,B<=k->k<w.heap.size->w'.heap[k]?=w.heap[k]?):RowsOwn w' B v L:=by
 obtain⟨m,p,q,b,s,t⟩:=h;refine⟨m,p,q,?_,fun i hi=>?_,t⟩
 . obtain⟨x,y,rfl,_⟩:=own_slice' b;rcases b.2 with⟨n,o⟩|⟨g,c,cur,u,j,l,r⟩
   . exact⟨b.1,.inl ⟨n,o⟩⟩
   . have d:=block_lt l;exact⟨b.1,.inr ⟨g,c,cur,u,j,(z g j d).trans l,r⟩⟩
 . have f:=s i hi;exact own_below f (z _ f.lt.1 f.lt.2)
theorem RowsOwn.up{w:Wo}{B:Nat}{v:Value}{L:LL}(h:RowsOwn w B v L):∃A c,v=zL A L.length c/\RowsUp w B A (nzs L):=by obtain⟨g,b⟩:=h;obtain⟨d,f,rfl,_⟩:=own_slice' b.out;exact⟨d,f,rfl,b.up⟩
theorem LGrid.wider{w:Wo}{B:Nat}{v:Value}{L:LL}{b:List (Nat × Nat)}(h:LGrid w B v L b L.length)(r:LN):LGrid w B v (L++[r]) b L.length:=by
 have e:∀i,i<L.length->(L++[r]).getD i []=L.getD i []:=fun i hi=>getD_snoc_lt hi;refine⟨h.len,U2,?_,fun i hi=>by rw[e i hi];exact h.row i hi,h.apart⟩
 rw[show(List.range L.length).map (hdr (L++[r]) b)=(List.range L.length).map (hdr L b) from List.map_congr_left fun i hi=>by
  unfold hdr
  rw[e i (List.mem_range.1 hi)]]
 exact h.out
theorem RowsOwn.append{w w1:Wo}{B:Nat}{v:Value}{L:LL}(h:RowsOwn w B v L)(S:B<=w.heap.size)(R:zB w w1){g c:Nat}{r:LN}(T:Row w1 w.heap.size g c (nz r))(U:L.length<=1000000):
 ∃(v':Value)(w2:Wo),(Builtin.append_ #[30,30] 30 #[v,zS w1.heap.size 1 1]).run prog (w1.alloc (.cells #[zS g r.length c] 23))=.ok v' w2/\Below B w w2/\w.heap.size<=w2.heap.size/\RowsOwn w2 B v' (L++[r]):=by
 obtain⟨M,x,z,A,C⟩:=qaF infoInts;obtain⟨m,j⟩:=h;have I:=R.size;have b:(w1.alloc (.cells #[zS g r.length c] 23)).ownsRow B 23 1 v L.length ((List.range L.length).map (hdr L m)):=by
  refine World.ownsRow.alloc ?_ _;obtain⟨O,Q,rfl,_⟩:=own_slice' j.out;rcases j.out.2 with⟨n,H⟩|⟨D,p,cur,J,q,E,N⟩
  . exact⟨j.out.1,.inl ⟨n,H⟩⟩
  . exact⟨j.out.1,.inr ⟨D,p,cur,J,q,(R.block D (block_lt E)).trans E,N⟩⟩
 obtain⟨v',w2,l,f,d,_,s⟩:=run_append_own_at (P:=prog) (w:=w1.alloc (.cells #[zS g r.length c] 23)) B 30 30 23 M _ 1 24 underlying30 x z A C rfl dc v L.length ((List.range L.length).map (hdr L m)) b (zA w1.heap.size 0) 1 1 [zS g r.length c] rfl
  (World.news_of_block (cs:=#[zS g r.length c]) (t:=23) (fr:=(0,0)) (heap_alloc_new w1 _)) (fun u hu=>by simp at hu;subst hu;rfl) U4 U0 so
 have n:=getD_snoc_eq L r [];have K:=j.wider r
 have y:=LGrid.step (w:=w) (w1:=w1) (w2:=w2) (v':=v') (k:=L.length) (g:=g) (c:=c) (o:=.cells #[zS g r.length c] 23) K U2 S R (by rw[n];exact T) (by
  rw[n]
  rw[show(List.range L.length).map (hdr (L++[r]) m)=(List.range L.length).map (hdr L m) from List.map_congr_left fun i x=>by
   unfold hdr
   rw[getD_snoc_lt (List.mem_range.1 x)]]
  exact f) d s
 refine⟨v',w2,l,?_,Nat.le_trans I (Nat.le_trans U2 d.size),⟨_,by rw[List.length_append];exact y⟩⟩;exact(((R.mono S).alloc U0 _).grown d so fun k hk=>(b.lt k hk).1)
theorem makeN(n:Nat)(i:n<=100000):∃zz:Array Value,(∀W,(Instr.makeSlice 23 (Y (n:Int)) (Y (n:Int))).run prog W=.ok (zS W.heap.size n n) (W.alloc (.cells zz 3)))/\∀(W:Wo)(B:Nat),B<=W.heap.size->Row (W.alloc (.cells zz 3)) B W.heap.size n (nz (List.replicate n 0)):=by obtain⟨h,g,b,c,d⟩:=qaF infoInt;refine⟨madeCells (Y 0).cells (n*1),fun W=>?_,fun W B hB=>Row.of_make (World.ownsRow_lit W _ n hB U4 (size_madeCells _ _))⟩;have f:=run_make (P:=prog) W 23 3 h _ underlying23 g b .i64 .i64 n n U0 U0 (by rw[d];omega) U0;simp only[Int.toNat_natCast,c] at f;exact f
structure CD where
 p:Int
 m:Int
 mod:LI
 A:OA
 c:Nat
 n:Int
 gen:List LI
 G:OA
 g:Nat
structure CD.At (d:CD) (w:Wo):Prop where
 mod:zI w d.A d.mod
 gen:zR w d.G d.gen
 z:codeZ d.p d.m d.mod d.n d.gen=0
theorem CD.At.keep{d:CD}{w w':Wo}(h:d.At w)(b:zB w w'):d.At w':=⟨(h.mod.keep b).more b.size,(h.gen.keep b).more b.size,h.z⟩
theorem codeZ_is{p m:Int}{mod:LI}{n:Int}{x:List LI}(y:codeZ p m mod n x=0):fieldOK p m mod=true/\1<=n/\n<=64/\nzs (natR x)=x/\Grid (p.toNat^m.toNat) (natR x).length n.toNat (natR x)/\x.length<=256/\mod.length<=1000/\errC p m mod n x=0/\canonM (opsT p.toNat m.toNat (lOf p m mod)) (natR x) n.toNat=natR x/\(natR x).length<=n.toNat:=by
 obtain⟨i,c,b⟩:=codeZ_n y;have q:1<=n/\n<=64:=by
  unfold lengthZ at c;split at c
  . cases c
  . omega
 have g:errC p m mod n x=0:=by
  unfold spZ at b;split at b
  . rename_i he;exact absurd b he
  . rename_i he;exact Classical.byContradiction he
 have d:=g;unfold errC at g;rw[if_pos i] at g;obtain⟨r,s,u,v,t⟩:=check_grid g;have l:shapeM p m mod=true:=by have:=i;unfold fieldOK at this;rw[Bool.and_eq_true] at this;exact this.1
 have k:=qeU l;have j:mod.length<=1000:=by
  by_cases o:m=1
  . rw[k.one o];simp
  . rw[k.len o];have:=k.small.m2;omega
 have f:canonM (opsT p.toNat m.toNat (lOf p m mod)) (natR x) n.toNat=natR x:=by
  unfold spZ at b;rw[if_neg (by rw[d];simp)] at b;split at b
  . rename_i h;have c:natR (nzs (canZ p m mod n x))=canZ p m mod n x:=natR_nzs _;rw[h] at c;exact c.symm
  . cases b
 refine⟨i,q.1,q.2,r,s,t,j,d,f,?_⟩;rw[<- f,canonM_len];exact(elGo_piv (natR x) n.toNat).1
theorem codeSz:(prog.info? 32).map (·.size)=some 5:=U1
theorem mod_small{p m:Int}{mod:LI}(h:fieldOK p m mod=true):mod.length<=8:=by
 have b:shapeM p m mod=true:=by unfold fieldOK at h;rw[Bool.and_eq_true] at h;exact h.1
 have d:=qeU b;have f:=d.small.m2;by_cases c:m=1
 . unfold shapeM at b;rw[if_pos c,Bool.and_eq_true] at b;have:=b.2;rw[beq_iff_eq] at this;omega
 . have:=d.len c;omega
theorem rparity_c{p m:Nat}{md:LN}{A:OA}{n cols:Nat}{rows:LL}{z:OA}{w:Wo}(h:RCode p m md A n cols rows z w)(c B:Nat):
 zC 45 #[C8 p m A n c cols z rows.length B] w (NullPost w (p^m) cols):=by
 have b:=zH (bx_new w (C2 p m A n c cols z rows.length B) 32);have g:=h.n1;have q:=h.n2;have i:=h.len;have r:zK (∀W:Wo,zB w W->zC 93 #[C7 p m A n c,zL z rows.length B,Y cols] W (NullPost W (p^m) cols)):=fun W hW=>by have j:=h.lift hW;exact rnull_c p m md A n c rows z B cols W j.fld j.ft j.grid j.at_ g U0 i
 clear h;go_enter func45,ntmps45;go_upto_region 1 with fail;generalize w.alloc (C4 p m A n c cols z rows.length B)=l at *;have f:=zH b.o.field;have d:=zH (r.o l b.o.below);have v:l.cell? (zA w.heap.size 3)=some (Y (cols:Int)):=b.o.cell rfl;have x:l.cell? (zA w.heap.size 4)=some (zL z rows.length B):=b.o.cell rfl;go_wp2_with (refine wpList_load_mid rfl 29 (.tmp 3) rfl w.heap.size 0 rfl (C5 p m A n c) _ f.o underlying29 rfl fieldSize ?_);refine d.o.mono ?_;rintro e y ⟨⟨A',R,ck,rfl,g,q,i⟩,hb⟩;have k:=zH (b.o.grow hb);have s:=zH g;have t:=zH q;have u:=zH i;clear hb g q i r d b f v x;go_wp2;go_ret;exact⟨⟨A',R,ck,rfl,s.out,t.out,u.out⟩,k.o.below⟩
def DualPost(w:Wo)(d:StD)(e:Ending)(w':Wo):Prop:=
 (∃(A':OA)(c':Nat)(G:OA)(R:LL)(k:Nat),e=.returned (.tuple #[C8 d.p d.m A' d.mod.length c' d.n G R.length k,Y 0])/\zI w' A' d.mod/\zR w' G (nzs R)/\R.length<=256)/\zB w w'
theorem rdual_c(d:StD)(Am:OA)(cm:Nat)(A:OA)(c:Nat)(w:Wo)(hz:codeZ d.p d.m d.mod d.n d.gen=0)(hM:zI w Am d.mod)(hA:zR w A d.gen):
 zC 26 #[C8 d.p d.m Am d.mod.length cm d.n A d.gen.length c] w (DualPost w d):=by
 have z:=zH (b2_new w (C2 d.p d.m Am d.mod.length cm d.n A d.gen.length c) 32 (Cd) 32);obtain⟨C,n1,n2,N,g,S⟩:=code_form hz;have Z:=mod_small C;have u:=zH hM;have E:=zH hA;have t:=zH<|fun W b=>by have:=rcodecheck_c d.p d.m d.mod Am cm d.n d.gen A c W ((u.o.keep b).more b.size) U0 ((E.o.keep b).more b.size) U0;rw[hz] at this;exact this
 obtain⟨_,J,K,L,M⟩:=code_nat hz hM hA;have x:zK (∀W:Wo,zB w W->zC 45 #[C8 d.p d.m Am d.mod.length cm d.n A d.gen.length c] W (NullPost W (d.p.toNat^d.m.toNat) d.n.toNat)):=fun W b=>by obtain⟨i,_⟩:=code_nat hz ((u.o.keep b).more b.size) ((E.o.keep b).more b.size);have:=rparity_c i cm c;rw[J,K,L,M] at this;exact this
 have v:=zH<|fun R A2 c2 W b hg hr hl=>by obtain⟨i,_⟩:=code_nat hz ((u.o.keep b).more b.size) ((E.o.keep b).more b.size);have:=rmake_c d.p.toNat d.m.toNat (mdOf d.m d.mod) Am d.mod cm R A2 c2 d.n.toNat W i.fld i.ft ((u.o.keep b).more b.size) U0 hg hr U0 U0 hl;unfold MakePost at this;rw[J,K,L] at this;exact this
 have X:=M;clear hM hA hz C N g J K L M u E;generalize d.p.toNat^d.m.toNat=q at *;generalize d.n.toNat=nn at *;go_enter func26,ntmps26;go_upto_region 1 with fail;generalize (w.alloc (C4 d.p d.m Am d.mod.length cm d.n A d.gen.length c)).alloc (Ca)=U at *;have y:=zH z.o.range;have s:=zH (t.o U z.o.below);go_wp2_with (refine wpList_load_mid rfl 32 (.tmp 1) rfl w.heap.size 0 rfl (C2 d.p d.m Am d.mod.length cm d.n A d.gen.length c) _ y.o underlying32 rfl codeSize ?_);refine s.o.mono ?_;rintro e w1 ⟨rfl,hb1⟩;have B:=zH (z.o.grow hb1);have aa:=z.o.2.2.2;clear hb1 s y z t;go_upto_region 4 with fail;have l:=zH<|B.o.grow zV.drew
 refine qaS 7 7 (B2 w (C2 d.p d.m Am d.mod.length cm d.n A d.gen.length c) 32 (Cd) 32) [(1,0),(0,1),(0,2),(1,4),(0,5),(2,3),(2,6)] default U1 U1 (fun _ _ d _ _ h=>by cases d<;>exact h) l.o ?_;simp only[List.map_cons,List.map_nil,List.getD_cons_zero,List.getD_cons_succ];generalize w1.drew=V at *;clear B;apply qaM rfl
 . intro W;go_simp;rfl
 go_simp;refine qaT rfl 29 (.tmp 11) rfl w.heap.size 0 rfl (C5 d.p d.m Am d.mod.length cm) _ (fun W b=>b.field) underlying29 rfl fieldSize ?_;go_simp;refine qaT rfl 32 (.tmp 1) rfl w.heap.size 0 rfl (C2 d.p d.m Am d.mod.length cm d.n A d.gen.length c) _ (fun W b=>b.range) underlying32 rfl codeSize ?_;go_simp;apply qaM rfl
 . intro W;go_simp;rfl
 go_simp;apply qbF rfl
 . intro W b;have z0:W.cell? (zA w.heap.size 3)=some (Y d.n):=b.cell rfl;go_simp;rfl
 go_simp;apply qbE rfl
 . go_simp;exact⟨rfl,rfl⟩
 with_reducible refine(x.o V l.o.below).mono ?_
 rintro e O ⟨⟨A',R,ck,rfl,hra,g,hrl⟩,hb2⟩;have f:=zH (l.o.grow hb2);have j:=zH (v.o R A' ck O f.o.below g hra hrl);refine⟨_,rfl,f.o,?_⟩;clear hb2 hra g v x;go_simp;apply qbE rfl
 . go_simp;exact⟨rfl,rfl⟩
 with_reducible refine j.o.mono ?_
 rintro e D ⟨⟨B',c',G,R',k',rfl,hi3,hr3,hl3⟩,hb3⟩;have r:=zH (f.o.grow hb3);have H:=zH hi3;have I:=zH hr3;have ab:=f.o.2.2.2;refine⟨_,rfl,r.o,?_⟩;clear hb3 hi3 hr3 j;go_simp;refine qbH ?_;show wpList _ _ _ _ _ _;go_simp;have T:=zH r.o.2.1;have Q:=zH (r.o.set (C2 d.p d.m B' d.mod.length c' d.n G R'.length k'));go_wp2_with (refine wpList_store_row rfl 32 (.tmp 2) (.tmp 17) rfl D (w.heap.size+1) 32 (C6) (Cc d.p d.m B' d.mod.length c' d.n G R'.length k') rfl rfl T.o codeSize rfl U3 ?_);refine bodyPost_ret (results_row_one (P:=prog) rfl _ _ (w.heap.size+1) 32 (Cc d.p d.m B' d.mod.length c' d.n G R'.length k') (0,0) _ _ rfl rfl Q.o.2.1 underlying32 rfl codeSize) rfl ?_;have hu:IntsUp (D.setRow (w.heap.size+1) (Cc d.p d.m B' d.mod.length c' d.n G R'.length k')) O.heap.size B' d.mod:=H.o.of_blocks U2 fun k hk _=>setRow_other D (w.heap.size+1) k _ U0;have hv:RowsUp (D.setRow (w.heap.size+1) (Cc d.p d.m B' d.mod.length c' d.n G R'.length k')) O.heap.size G (nzs R'):=I.o.of_blocks U2 fun k hk _=>setRow_other D (w.heap.size+1) k _ U0;exact⟨⟨B',c',G,R',k',rfl,hu.ints,hv.rowsAt,hl3⟩,Q.o.below⟩
theorem StsAt.more'{w:Wo}{B B':Nat}{A:OA}{l:List StD}(h:StsAt w B A l)(m:B<=B'):StsAt w B' A l:=fun hz=>by
 obtain⟨b,o,e,k,j⟩:=h hz
 refine⟨b,o,e,U0,fun i d hd=>?_⟩
 obtain⟨c,f,g⟩:=j i d hd
 exact⟨c,f,g.more m⟩
def RelFw(w:Wo)(n:Nat)(v3:Value)(wr:Wo):Prop:=∃k:Nat,k<=n/\v3=Y k/\zB w wr
def FewPost(w:Wo)(n:Nat)(e:Ending)(w':Wo):Prop:=∃b,e=.returned (.bool b)/\zB w w'/\(b=true->n<=12)
theorem rfewD_c(ds:List StD)(A:OA)(c:Nat)(w:Wo)(hA:StsAt w w.heap.size A ds)(hk:∀ d∈ds,d.ok):
 zC 14 #[zL A ds.length c] w (FewPost w ds.length):=by
 have HA:=zH hA;have HK:=zH hk;clear hA hk;go_enter func14,ntmps14;by_cases a9:(12:Int)<(ds.length:Int)
 . go_wp2;go_ret;exact⟨_,rfl,Below.refl _ _,fun h=>by cases h⟩
 have j:zK (ds.length<=12):=U6;go_wp2;go_loopw [3] (fun v3 wr=>RelFw w ds.length v3 wr) (fun v3 _=>ds.length-(intOf v3).toNat);case atStart=>exact⟨0,Nat.zero_le _,rfl,Below.refl _ _⟩
 case round =>
  obtain⟨k,bc,rfl,hb⟩:=hrel;have i:=zH hb;clear hb;by_cases ab:k<ds.length
  . (have k0 : (0 : Int) <= (k : Int) := by omega);have k1:(k:Int)<(ds.length:Int):=U0;have bd:IntKind.i64.wrap ((k:Int)+1)=(k:Int)+1:=IntWalk.i64_in _ U0;obtain ⟨b,o,a7,rfl,ba,an,ao⟩:=(HA.o.keep i.o).at_ ab;have a4:=HK.o _ (List.getElem_mem ab);generalize ds[k]'ab=s at *;have av:=zH (ao.more i.o.size);obtain ⟨C,B,Af,Aa,Ab,Ap,Aq,Ar,As,At,H,E,cf,ca,cb,cp,cq,cr,y,S,rfl,ay,h1,h2,h3,h4,h5⟩:=ao;have HM:=zH (h1.more i.o.size);have HG:=zH (h2.more i.o.size);have HT:=zH (h5.more i.o.size);have ak:=zH an;obtain ⟨s1,s2,_⟩:=a4;have aw:maxLen=9223372036854775807:=rfl;rw [aw] at s1 s2;have t:=zH (sb_new wr (stCells s C B Af Aa Ab Ap Aq Ar As At H E cf ca cb cp cq cr y S));(have Q:zK ((stCells s C B Af Aa Ab Ap Aq Ar As At H E cf ca cb cp cq cr y S).toArray.all (·.oneCell')=true):=by show _=_;simp [stCells,Value.oneCell']);clear ay h1 h2 h3 h4 h5 an av
    go_upto_region 7 with(first
     |(refine wpList_load_mid rfl 40 (.tmp 18) rfl b (o+k*23) rfl (stCells s C B Af Aa Ab Ap Aq Ar As At H E cf ca cb cp cq cr y S) _ ak.o underlying40 rfl stepSize ?_)
     |(refine qaH rfl 40 (.tmp 4) (.tmp 19) rfl wr _ (stCells s C B Af Aa Ab Ap Aq Ar As At H E cf ca cb cp cq cr y S).toArray rfl rfl stepSize rfl Q.o ?_))
    generalize wr.alloc (.cells (stCells s C B Af Aa Ab Ap Aq Ar As At H E cf ca cb cp cq cr y S).toArray 40)=D at *;clear ak Q;have T:D.cell? (zA wr.heap.size 1)=some (Y s.p):=t.o.cell rfl;have U:D.cell? (zA wr.heap.size 2)=some (Y s.m):=t.o.cell rfl;have V:D.cell? (zA wr.heap.size 3)=some (zL C s.mod.length H):=t.o.cell rfl;have X:D.cell? (zA wr.heap.size 4)=some (Y s.n):=t.o.cell rfl;have Z:D.cell? (zA wr.heap.size 5)=some (zL B s.gen.length E):=t.o.cell rfl;have y7:D.cell? (zA wr.heap.size 7)=some (zL Af s.frm.length cf):=t.o.cell rfl;have y8:D.cell? (zA wr.heap.size 8)=some (zL Aa s.at_.length ca):=t.o.cell rfl;have ac:D.cell? (zA wr.heap.size 17)=some (zL Ap s.points cp):=t.o.cell rfl;have ad:D.cell? (zA wr.heap.size 18)=some (zL Aq s.mults cq):=t.o.cell rfl;have ae:D.cell? (zA wr.heap.size 19)=some (zL Ar s.perm cr):=t.o.cell rfl;have af:D.cell? (zA wr.heap.size 20)=some (zL As s.scale y):=t.o.cell rfl;have ag:D.cell? (zA wr.heap.size 22)=some (zL At s.sets.length S):=t.o.cell rfl;by_cases bf:(24:Int)<s.n
    . go_wp2;go_ret;exact⟨_,rfl,i.o.trans (t.o.2.1.mono i.o.size),fun _=>j.o⟩
    by_cases a8:(24:Int)<(s.gen.length:Int)
    . go_wp2;go_ret;exact⟨_,rfl,i.o.trans (t.o.2.1.mono i.o.size),fun _=>j.o⟩
    have HF:=zH (fewN_c 700 (Y s.p) (Y s.m) (zL C s.mod.length H) (Y s.n) s.gen B E D ((HG.o.keep t.o.2.1).more t.o.2.1.size) dc dc);go_wp2_with fail;go_fit HF.o;rintro e I ⟨b1,rfl,hb1⟩;have f:=zH (t.o.grow hb1);clear hb1 HF t;clear T U V X Z y7 y8 ac ad ae af ag;have T:I.cell? (zA wr.heap.size 1)=some (Y s.p):=f.o.cell rfl;have U:I.cell? (zA wr.heap.size 2)=some (Y s.m):=f.o.cell rfl;have V:I.cell? (zA wr.heap.size 3)=some (zL C s.mod.length H):=f.o.cell rfl;have X:I.cell? (zA wr.heap.size 4)=some (Y s.n):=f.o.cell rfl;have Z:I.cell? (zA wr.heap.size 5)=some (zL B s.gen.length E):=f.o.cell rfl;have y7:I.cell? (zA wr.heap.size 7)=some (zL Af s.frm.length cf):=f.o.cell rfl;have y8:I.cell? (zA wr.heap.size 8)=some (zL Aa s.at_.length ca):=f.o.cell rfl;have ac:I.cell? (zA wr.heap.size 17)=some (zL Ap s.points cp):=f.o.cell rfl;have ad:I.cell? (zA wr.heap.size 18)=some (zL Aq s.mults cq):=f.o.cell rfl;have ae:I.cell? (zA wr.heap.size 19)=some (zL Ar s.perm cr):=f.o.cell rfl;have af:I.cell? (zA wr.heap.size 20)=some (zL As s.scale y):=f.o.cell rfl;have ag:I.cell? (zA wr.heap.size 22)=some (zL At s.sets.length S):=f.o.cell rfl;clear D;cases b1
    . go_wp2;go_ret;exact⟨_,rfl,i.o.trans (f.o.2.1.mono i.o.size),fun _=>j.o⟩
    obtain⟨e1,az⟩:∃e1,IntKind.i64.wrap ((s.at_.length:Int)+(s.points:Int))=e1:=⟨_,rfl⟩;obtain⟨e2,a0⟩:∃e2,IntKind.i64.wrap (e1+(s.mults:Int))=e2:=⟨_,rfl⟩;obtain⟨e3,a1⟩:∃e3,IntKind.i64.wrap (e2+(s.perm:Int))=e3:=⟨_,rfl⟩;obtain⟨e4,a2⟩:∃e4,IntKind.i64.wrap (e3+(s.scale:Int))=e4:=⟨_,rfl⟩;obtain⟨e5,a3⟩:∃e5,IntKind.i64.wrap (e4+(s.frm.length:Int))=e5:=⟨_,rfl⟩;by_cases hs:(200:Int)<e5
    . go_wp2;go_ret;exact⟨_,rfl,i.o.trans (f.o.2.1.mono i.o.size),fun _=>j.o⟩
    have HF:=zH (xfew_c s.sets At S I ((HT.o.keep f.o.2.1).more f.o.2.1.size));go_wp2_with fail;go_fit HF.o;rintro e w2 ⟨b2,rfl,hb2⟩;have u:=zH (f.o.grow hb2);clear hb2 HF f az a0 a1 a2 a3;clear T U V X Z y7 y8 ac ad ae af ag;clear I;cases b2
    . go_wp2;go_ret;exact⟨_,rfl,i.o.trans (u.o.2.1.mono i.o.size),fun _=>j.o⟩
    (have N:=zH<|u.o.code);have ai:=zH (rcodecheck_c s.p s.m s.mod C H s.n s.gen B E w2 ((HM.o.keep u.o.2.1).more u.o.2.1.size) s1 ((HG.o.keep u.o.2.1).more u.o.2.1.size) s2);go_wp2_with (refine wpList_load_mid rfl 32 (.tmp 71) rfl wr.heap.size 1 rfl (C2 s.p s.m C s.mod.length H s.n B s.gen.length E) _ N.o underlying32 rfl codeSize ?_);go_fit ai.o;rintro e w3 ⟨rfl,hb3⟩;have v:=zH (u.o.grow hb3);clear hb3 ai u N;clear w2;have ah:=zH (i.o.trans (v.o.2.1.mono i.o.size));by_cases hz:codeZ s.p s.m s.mod s.n s.gen=0
    . (have N := zH<|v.o.code);have aj:=zH (rdual_c s C H B E w3 hz ((HM.o.keep v.o.2.1).more v.o.2.1.size) ((HG.o.keep v.o.2.1).more v.o.2.1.size));have bb:=(code_form hz).2.2.2.2.2
      have aa:=zH<|fun W hW=>
       count_c s.p s.m s.mod C H s.n s.gen B E 1024 W ((HM.o.keep hW).more hW.size) s1 ((HG.o.keep hW).more hW.size) U0
      rw[hz];clear hz;go_upto_region 10 with fail;go_wp2_with (refine wpList_load_mid rfl 32 (.tmp 76) rfl wr.heap.size 1 rfl (C2 s.p s.m C s.mod.length H s.n B s.gen.length E) _ N.o underlying32 rfl codeSize ?_);go_fit aj.o;rintro e K ⟨⟨B',c',G,R,k',rfl,hi4,hr4,hl4⟩,hb4⟩;have al:=zH (v.o.grow hb4);have J:zB K (K.alloc (C4 s.p s.m B' s.mod.length c' s.n G R.length k')):=zV.alloc zn _;have g:=zH (al.o.grow J);have ar:=zH ((hi4.keep J).more J.size);have au:=zH ((hr4.keep J).more J.size);have M:=zH (heap_alloc_new K (C4 s.p s.m B' s.mod.length c' s.n G R.length k'));(have a6:zK (K.heap.size<(K.alloc (C4 s.p s.m B' s.mod.length c' s.n G R.length k')).heap.size):=by show _ < _;simp);clear hb4 hi4 hr4 aj v N J al ah;go_upto_region 11 with(refine qaH rfl 32 (.tmp 5) (.tmp 79) rfl K _ (Cc s.p s.m B' s.mod.length c' s.n G R.length k') rfl rfl codeSize rfl U3 ?_);generalize K.alloc (C4 s.p s.m B' s.mod.length c' s.n G R.length k')=L at *;have aq:=zH (i.o.trans (g.o.2.1.mono i.o.size));have y0:L.cell? (zA wr.heap.size 0)=some (Y s.rule):=g.o.cell rfl;have T:L.cell? (zA wr.heap.size 1)=some (Y s.p):=g.o.cell rfl;have U:L.cell? (zA wr.heap.size 2)=some (Y s.m):=g.o.cell rfl;have V:L.cell? (zA wr.heap.size 3)=some (zL C s.mod.length H):=g.o.cell rfl;have X:L.cell? (zA wr.heap.size 4)=some (Y s.n):=g.o.cell rfl;have Z:L.cell? (zA wr.heap.size 5)=some (zL B s.gen.length E):=g.o.cell rfl;by_cases O:s.rule=15
      . have a5 := beq_iff_eq.2 O;have ap:(s.rule==16)=false:=beq_false_of_ne U0;have l:=zH (aa.o L g.o.2.1);clear O aa;by_cases r:cnV s.p s.m s.mod s.n s.gen 1024=0
        . rw[r] at l;clear r;go_wp2_with fail;go_fit l.o;rintro e w6 ⟨rfl,hb6⟩;have q:=zH (g.o.grow hb6);have x:=zH (i.o.trans (q.o.2.1.mono i.o.size));clear hb6 l g y0 T U V X Z;have y0:w6.cell? (zA wr.heap.size 0)=some (Y s.rule):=q.o.cell rfl;go_wp2;go_ret;exact⟨_,rfl,x.o,fun _=>j.o⟩
        . have ax:=beq_false_of_ne r;generalize cnV s.p s.m s.mod s.n s.gen 1024=cv at *;clear r;go_wp2_with fail;go_fit l.o;rintro e w6 ⟨rfl,hb6⟩;have q:=zH (g.o.grow hb6);have x:=zH (i.o.trans (q.o.2.1.mono i.o.size));clear hb6 l g y0 T U V X Z;have y0:w6.cell? (zA wr.heap.size 0)=some (Y s.rule):=q.o.cell rfl;go_wp2;go_roundw;case rel=>exact⟨k+1,U0,gn,x.o⟩
          case measure=>simp[intOf];omega
      . have a5 := beq_false_of_ne O;clear O aa;by_cases P:s.rule=16
        . have ap := beq_iff_eq.2 P;have l:=zH (count_c s.p s.m s.mod B' c' s.n (nzs R) G k' 1024 L ar.o s1 au.o (by rw [nzs_len];omega));rw [nzs_len] at l;have d0:L.cell? (zA K.heap.size 0)=some (Y s.p):=cell_of_row _ _ 0 _ _ _ M.o;have d1:L.cell? (zA K.heap.size 1)=some (Y s.m):=cell_of_row _ _ 1 _ _ _ M.o;have d2:L.cell? (zA K.heap.size 2)=some (zL B' s.mod.length c'):=cell_of_row _ _ 2 _ _ _ M.o;have d3:L.cell? (zA K.heap.size 3)=some (Y s.n):=cell_of_row _ _ 3 _ _ _ M.o;have d4:L.cell? (zA K.heap.size 4)=some (zL G R.length k'):=cell_of_row _ _ 4 _ _ _ M.o;clear P;by_cases r:cnV s.p s.m s.mod s.n (nzs R) 1024=0
          . rw[r] at l;clear r;go_wp2_with fail;go_fit l.o;rintro e w6 ⟨rfl,hb6⟩;have q:=zH (g.o.grow hb6);have x:=zH (i.o.trans (q.o.2.1.mono i.o.size));clear hb6 l g y0 T U V X Z;go_wp2;go_ret;exact⟨_,rfl,x.o,fun _=>j.o⟩
          . have ax:=beq_false_of_ne r;generalize cnV s.p s.m s.mod s.n (nzs R) 1024=cv at *;clear r;go_wp2_with fail;go_fit l.o;rintro e w6 ⟨rfl,hb6⟩;have q:=zH (g.o.grow hb6);have x:=zH (i.o.trans (q.o.2.1.mono i.o.size));clear hb6 l g y0 T U V X Z;go_wp2;go_roundw;case rel=>exact⟨k+1,U0,gn,x.o⟩
            case measure=>simp[intOf];omega
        . have ap:=beq_false_of_ne P;clear P;go_wp2;go_roundw;case rel=>exact⟨k+1,U0,gn,aq.o⟩
          case measure=>simp[intOf];omega
    . have be:=bne_iff_ne.2 hz;generalize codeZ s.p s.m s.mod s.n s.gen=z at *;go_wp2;go_roundw;case rel=>exact⟨k+1,U0,gn,ah.o⟩
      case measure=>simp[intOf];omega
  . (obtain rfl:k=ds.length:=by omega);go_wp2;go_ret;exact⟨_,rfl,i.o,fun _=>j.o⟩
end Go.Proofs.YtocbdafcolbfeaaGreat
