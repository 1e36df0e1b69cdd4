/- Parts of the proof. -/
import Derived.Test.YtflejelbdlelpaaGreatR01
set_option maxRecDepth 100000
set_option maxHeartbeats 8000000
namespace Go.Proofs.YtflejelbdlelpaaGreat.Pln
abbrev Vec:=Nat->Int
def sh(m:Nat)(md:Vec)(v:Vec):Vec:=fun j=>if j<m then(if j=0 then 0 else v (j-1))-v (m-1)*md j else 0
def shN(m:Nat)(md:Vec):Nat->Vec->Vec
 |0,v=>v
 |k+1,v=>sh m md (shN m md k v)
def pol(m:Nat)(md:Vec)(b:Vec):Nat->Vec->Vec
 |0,_=>fun _=>0
 |k+1,a=>fun j=>b k*shN m md k a j+pol m md b k a j
def un:Vec:=fun j=>if j=0 then 1 else 0
def Supp(m:Nat)(a:Vec):Prop:=∀j,m<=j->a j=0
section
variable (m:Nat) (md:Vec)
theorem sh_lin(a:Int)(u v:Vec):sh m md (fun j=>a*u j+v j)=fun j=>a*sh m md u j+sh m md v j:=by funext j;unfold sh;by_cases h:j<m<;>by_cases b:j=0<;>simp only[h,b,if_true,if_false]<;>grind
theorem sh_zero:sh m md (fun _=>0)=fun _=>0:=by funext j;unfold sh;by_cases h:j<m<;>by_cases b:j=0<;>simp[h,b]
theorem qdN(a:Int)(u v:Vec):∀k,shN m md k (fun j=>a*u j+v j)=fun j=>a*shN m md k u j+shN m md k v j
 |0=>rfl
 |k+1=>by show sh m md (shN m md k _)=_;rw[qdN a u v k,sh_lin];rfl
theorem qeA:∀k,shN m md k (fun _=>0)=fun _=>0
 |0=>rfl
 |k+1=>by show sh m md (shN m md k _)=_;rw[qeA k,sh_zero]
theorem shN_succ(v:Vec):∀k,shN m md (k+1) v=shN m md k (sh m md v)
 |0=>rfl
 |k+1=>by show sh m md (shN m md (k+1) v)=_;rw[shN_succ v k];rfl
theorem shN_add(v:Vec)(i:Nat):∀k,shN m md (k+i) v=shN m md k (shN m md i v)
 |0=>by rw[Nat.zero_add];rfl
 |k+1=>by rw[Nat.add_right_comm];show sh m md (shN m md (k+i) v)=_;rw[shN_add v i k];rfl
theorem pol_lin(b:Vec)(a:Int)(u v:Vec):∀ k,pol m md b k (fun j=>a*u j+v j)=fun j=>a*pol m md b k u j+pol m md b k v j
 |0=>by funext j;simp[pol]
 |k + 1=>by
   funext j
   simp only[pol,pol_lin b a u v k,qdN m md a u v k]
   grind
theorem pol_zero(b:Vec):∀k,pol m md b k (fun _=>0)=fun _=>0
 |0=>rfl
 |k+1=>by funext j;simp[pol,pol_zero b k,qeA m md k]
theorem qdZ(a:Int)(b c:Vec)(u:Vec):∀k,pol m md (fun j=>a*b j+c j) k u=fun j=>a*pol m md b k u j+pol m md c k u j
 |0=>by funext j;simp[pol]
 |k+1=>by funext j;simp only[pol,qdZ a b c u k];grind
theorem pol_sh(b:Vec)(a:Vec):∀ k,pol m md b k (sh m md a)=sh m md (pol m md b k a)
 |0=>by funext j;simp[pol,sh_zero]
 |k + 1=>by
   show(fun j=>b k*shN m md k (sh m md a) j+pol m md b k (sh m md a) j)=sh m md (fun j=>b k*shN m md k a j+pol m md b k a j)
   rw[sh_lin,pol_sh b a k,<- shN_succ]
   rfl
theorem pol_shN(b:Vec)(a:Vec)(k:Nat):∀i,pol m md b k (shN m md i a)=shN m md i (pol m md b k a)
 |0=>rfl
 |i+1=>by show pol m md b k (sh m md (shN m md i a))=sh m md (shN m md i (pol m md b k a));rw[pol_sh,pol_shN b a k i]
theorem pol_comm(b c a:Vec)(l:Nat):∀ k,pol m md b k (pol m md c l a)=pol m md c l (pol m md b k a)
 |0=>by show(fun _=>0)=pol m md c l (fun _=>0);rw[pol_zero]
 |k + 1=>by
   show(fun j=>b k*shN m md k (pol m md c l a) j+pol m md b k (pol m md c l a) j)=pol m md c l (fun j=>b k*shN m md k a j+pol m md b k a j)
   rw[pol_lin,pol_comm b c a l k,pol_shN]
theorem pol_horner(b a:Vec):∀ k,pol m md b (k+1) a=fun j=>b 0*a j+sh m md (pol m md (fun i=>b (i+1)) k a) j
 |0=>by funext j;simp[pol,sh_zero,shN]
 |k + 1=>by
   have h:=pol_horner b a k
   funext j
   show b (k+1)*shN m md (k+1) a j+pol m md b (k+1) a j=_
   rw[h]
   show _=b 0*a j+sh m md (fun j=>b (k+1)*shN m md k a j+pol m md (fun i=>b (i+1)) k a j) j
   rw[sh_lin]
   show b (k+1)*sh m md (shN m md k a) j+_=_
   grind
theorem sh_supp(a:Vec):Supp m (sh m md a):=fun j hj=>by unfold sh;rw[if_neg U0]
theorem shN_supp{a:Vec}(h:Supp m a):∀k,Supp m (shN m md k a)
 |0=>h
 |_+1=>sh_supp m md _
theorem pol_supp{b a:Vec}(h:Supp m a):∀k,Supp m (pol m md b k a)
 |0=>fun _ _=>rfl
 |k+1=>fun j hj=>by simp[pol,pol_supp h k j hj,shN_supp m md h k j hj]
theorem shN_un:∀ i,i<m->shN m md i un=fun j=>if j=i then 1 else 0
 |0,_=>rfl
 | i + 1,h => by
   show sh m md (shN m md i un)=_
   rw[shN_un i U0]
   funext j
   unfold sh
   by_cases hj:j<m
   . have hmi : ¬ (m - 1 = i) := by omega
     simp only[if_pos hj,if_neg hmi]
     by_cases b:j=0
     . subst b;simp
     . have c : (j - 1 = i) ↔ (j = i + 1):=by omega
       simp[b,c]
   . rw[if_neg hj,if_neg U0]
theorem shN_un_top(f:0<m):shN m md m un=fun j=>if j<m then-md j else 0:=by
 obtain⟨n,rfl⟩:∃n,m=n+1:=⟨m-1,U0⟩;show sh (n+1) md (shN (n+1) md n un)=_;rw[shN_un (n+1) md n U0];funext j;unfold sh;by_cases b:j<n+1
 . rw[if_pos b,if_pos b];by_cases c:j=0
   . subst c;simp
   . (have d:¬(j-1=n):=by omega);simp[c,d]
 . rw[if_neg b,if_neg b]
theorem pol_un(b:Vec):∀ k,k<=m->pol m md b k un=fun j=>if j<k then b j else 0
 |0,_=>by funext j;simp[pol]
 | k + 1,h => by
   funext j
   simp only[pol,shN_un m md k U0,pol_un b k U0]
   by_cases h1:j=k
   . subst h1;simp
   . rw[if_neg h1]
     by_cases h2:j<k
     . rw[if_pos h2,if_pos U0];simp
     . rw[if_neg h2,if_neg U0];simp
theorem pol_id{b:Vec}(h:Supp m b):pol m md b m un=b:=by
 rw[pol_un m md b m zn];funext j;by_cases c:j<m
 . rw[if_pos c]
 . rw[if_neg c,h j U0]
def mz(a b:Vec):Vec:=pol m md b m a
theorem mz_comm{a b:Vec}(c:Supp m a)(d:Supp m b):mz m md a b=mz m md b a:=by
 show pol m md b m a=pol m md a m b;conv=>lhs;rw[<- pol_id m md c]
 rw[pol_comm,pol_id m md d]
theorem mz_assoc{a b c:Vec}(f:Supp m a)(g:Supp m b):mz m md (mz m md a b) c=mz m md a (mz m md b c):=by have d:Supp m (mz m md b c):=pol_supp m md g m;rw[mz_comm m md f d];show pol m md c m (pol m md b m a)=pol m md a m (pol m md c m b);rw[pol_comm m md a c b m m];exact congrArg (pol m md c m) (mz_comm m md f g)
theorem mz_un{a:Vec}:mz m md un a=fun j=>if j<m then a j else 0:=pol_un m md a m zn
end
def Cg(p:Int)(u v:Vec):Prop:=∃t:Vec,u=fun j=>p*t j+v j
theorem Cg.refl(p:Int)(u:Vec):Cg p u u:=⟨fun _=>0,by funext j;simp⟩
theorem Cg.of_eq{p:Int}{u v:Vec}(h:u=v):Cg p u v:=h ▸ Cg.refl p u
theorem Cg.symm{p:Int}{u v:Vec}(h:Cg p u v):Cg p v u:=by obtain⟨t,rfl⟩:=h;exact⟨fun j=>- t j,by funext j;grind⟩
theorem Cg.trans{p:Int}{u v w:Vec}(h:Cg p u v)(b:Cg p v w):Cg p u w:=by obtain⟨t,rfl⟩:=h;obtain⟨s,rfl⟩:=b;exact⟨fun j=>t j+s j,by funext j;grind⟩
theorem Cg.lin{p:Int}{u v b c:Vec}(a:Int)(h:Cg p u b)(d:Cg p v c):Cg p (fun j=>a*u j+v j) (fun j=>a*b j+c j):=by obtain⟨t,rfl⟩:=h;obtain⟨s,rfl⟩:=d;exact⟨fun j=>a*t j+s j,by funext j;grind⟩
theorem Cg.at_{p:Int}{u v:Vec}(h:Cg p u v)(j:Nat):u j % p=v j % p:=by obtain⟨t,rfl⟩:=h;show(p*t j+v j) % p=_;rw[Int.add_comm,Int.add_mul_emod_self_left]
theorem Cg.mk{p:Int}{u v:Vec}(h:∀j,u j % p=v j % p):Cg p u v:=by refine⟨fun j=>u j / p-v j / p,?_⟩;funext j;have b:=Int.mul_ediv_add_emod (u j) p;have c:=Int.mul_ediv_add_emod (v j) p;have:=h j;grind
theorem Cg.sh{p:Int}{u v:Vec}(m:Nat)(md:Vec)(h:Cg p u v):Cg p (sh m md u) (sh m md v):=by obtain⟨t,rfl⟩:=h;exact⟨Pln.sh m md t,by rw[sh_lin]⟩
theorem Cg.pol{p:Int}{u v:Vec}(m:Nat)(md b:Vec)(k:Nat)(h:Cg p u v):Cg p (pol m md b k u) (pol m md b k v):=by obtain⟨t,rfl⟩:=h;exact⟨Pln.pol m md b k t,by rw[pol_lin]⟩
theorem Cg.coef{p:Int}{b c:Vec}(m:Nat)(md a:Vec)(k:Nat)(h:Cg p b c):Cg p (Pln.pol m md b k a) (Pln.pol m md c k a):=by obtain⟨t,rfl⟩:=h;exact⟨Pln.pol m md t k a,by rw[qdZ]⟩
def digs(p:Nat):Nat->Nat->LN
 |0,_=>[]
 |m+1,x=>x % p :: digs p m (x / p)
def val(p:Nat):LN->Nat
 |[]=>0
 |d :: r=>d+p*val p r
def Dig(p m:Nat)(l:LN):Prop:=l.length=m/\∀d∈l,d<p
def F(l:LN):Vec:=fun j=>((l.getD j 0:Nat):Int)
theorem qaZ{l:LN}{j:Nat}(h:l.length<=j):l.getD j 0=0:=by simp[List.getD,List.getElem?_eq_none h]
theorem qaK(p:Nat):∀m x,(digs p m x).length=m
 |0,_=>rfl
 |m+1,x=>by simp[digs,qaK p m]
theorem qdU{p:Nat}(b:0<p):∀ m x,∀ d∈digs p m x,d<p
 |0,_=>by simp[digs]
 |m + 1,x=>by
   intro d hd
   simp only[digs,List.mem_cons] at hd
   rcases hd with rfl|hd
   . exact Nat.mod_lt _ b
   . exact qdU b m _ d hd
theorem qcB{p:Nat}(b:0<p)(m x:Nat):Dig p m (digs p m x):=⟨qaK p m x,qdU b m x⟩
theorem val_digs{p:Nat}(b:0<p):∀ m x,x<p ^ m->val p (digs p m x)=x
 |0,x,h=>by simp at h;simp[digs,val,h]
 |m + 1,x,h=>by
   have h1:x / p<p^m:=by rw[Nat.div_lt_iff_lt_mul b];rwa [Nat.pow_succ] at h
   simp only[digs,val,val_digs b m _ h1]
   exact Nat.mod_add_div x p
theorem qcR{p:Nat}(b:0<p):∀ l:LN,(∀ d∈l,d<p)->digs p l.length (val p l)=l
 |[],_=>rfl
 |d :: r,h=>by
   have hd:=h d (List.mem_cons_self ..)
   have:=qcR b r (fun y hy=>h y (List.mem_cons_of_mem _ hy))
   simp only[val,List.length_cons,digs]
   rw[Nat.add_mul_mod_self_left,Nat.mod_eq_of_lt hd,Nat.add_mul_div_left _ _ b,Nat.div_eq_of_lt hd,Nat.zero_add,this]
theorem val_lt{p:Nat}(c:0<p):∀ l:LN,(∀ d∈l,d<p)->val p l<p ^ l.length
 |[],_=>by simp[val]
 |d :: r,h=>by
   have hd:=h d (List.mem_cons_self ..)
   have:=val_lt c r (fun y hy=>h y (List.mem_cons_of_mem _ hy))
   simp only[val,List.length_cons,Nat.pow_succ]
   have b:p*(val p r+1)<=p*p^r.length:=Nat.mul_le_mul_left _ this
   rw[Nat.mul_comm (p^r.length) p]
   rw[Nat.mul_add,Nat.mul_one] at b
   omega
theorem qcP{m:Nat}{l:LN}(h:l.length<=m):Supp m (F l):=fun j hj=>by
 unfold F
 rw[qaZ U0]
 rfl
theorem F_inj{p:Nat}{l n:LN}(r:l.length=n.length)(h:∀d∈l,d<p)(o:∀d∈n,d<p)(q:Cg p (F l) (F n)):l=n:=by
 apply List.ext_getElem r;intro j b c;have:=q.at_ j;unfold F at this;have f:l.getD j 0=l[j]:=by simp[List.getD,b]
 have g:n.getD j 0=n[j]:=by simp[List.getD,c]
 rw[f,g] at this;have i:=h _ (List.getElem_mem b);have k:=o _ (List.getElem_mem c);rw[Int.emod_eq_of_lt U0 U0,Int.emod_eq_of_lt U0 U0] at this;omega
def stepM(p m:Nat)(md a:LN)(bi:Nat)(out:LN):LN:=
 (List.range m).map fun j=>((if j=0 then 0 else out.getD (j-1) 0)+(p-out.getD (m-1) 0)*md.getD j 0+bi*a.getD j 0) % p
def mulL(p m:Nat)(md a b:LN):LN:=b.foldr (fun bi out=>stepM p m md a bi out) (List.replicate m 0)
theorem stepM_dig{p m:Nat}(c:0<p)(md a:LN)(bi:Nat)(b:LN):Dig p m (stepM p m md a bi b):=by refine⟨by simp[stepM],?_⟩;intro d hd;unfold stepM at hd;obtain⟨j,_,rfl⟩:=List.mem_map.1 hd;exact Nat.mod_lt _ c
theorem qeV{p m:Nat}(c:0<p){l:LN}(h:Dig p m l)(j:Nat):l.getD j 0<p:=by
 by_cases b:j<l.length
 . (have:l.getD j 0=l[j]:=by simp[List.getD,b]);rw[this];exact h.2 _ (List.getElem_mem b)
 . rw[qaZ U0];exact c
theorem stepM_spec{p m:Nat}(o:0<p)(md a:LN)(q:a.length=m)(bi:Nat)(l:LN)(n:Dig p m l):
 Cg p (F (stepM p m md a bi l)) (fun j=>(bi:Int)*F a j+sh m (F md) (F l) j):=by
 apply Cg.mk;intro j;by_cases b:j<m
 . (have e:(stepM p m md a bi l).getD j 0=((if j=0 then 0 else l.getD (j-1) 0)+(p-l.getD (m-1) 0)*md.getD j 0+bi*a.getD j 0) % p:=by simp[stepM,List.getD,b]);have k:=qeV o n (m-1);show((((stepM p m md a bi l).getD j 0:Nat):Int)) % p=_;rw[e];unfold sh F;rw[if_pos b];generalize l.getD (m-1) 0=t at *;generalize md.getD j 0=d at *;generalize a.getD j 0=y at *;(have i:(((if j=0 then 0 else l.getD (j-1) 0):Nat):Int)=(if j=0 then(0:Int) else((l.getD (j-1) 0:Nat):Int)):=by split<;>rfl);rw[<- i];generalize (if j=0 then 0 else l.getD (j-1) 0)=s at *;(have h:(((s+(p-t)*d+bi*y) % p:Nat):Int)=((bi:Int)*y+(s-(t:Int)*d)+p*d) % p:=by rw[Int.natCast_emod];congr 1;rw[Int.natCast_add,Int.natCast_add,Int.natCast_mul,Int.natCast_mul,Int.natCast_sub (Nat.le_of_lt k)];grind);rw[h,Int.add_mul_emod_self_left,Int.emod_emod]
 . have c:F (stepM p m md a bi l) j=0:=qcP (m:=m) (by simp[stepM]) j U0;have f:F a j=0:=qcP (m:=m) U0 j U0;have g:sh m (F md) (F l) j=0:=sh_supp m _ _ j U0;rw[c,f,g];simp
theorem qaW{p m:Nat}(c:0<p)(md a b:LN):Dig p m (mulL p m md a b):=by
 cases b with
 |nil=>exact⟨by simp[mulL],fun d hd=>by simp[mulL] at hd;omega⟩
 |cons x r=>exact stepM_dig c md a x _
theorem F_zero(m:Nat):F (List.replicate m 0)=fun _=>0:=by funext j;unfold F;simp[List.getD,List.getElem?_replicate];split<;>simp
theorem F_cons(x:Nat)(r:LN)(i:Nat):F (x :: r) (i+1)=F r i:=by simp[F]
theorem mulL_spec'{p m:Nat}(d:0<p)(md a:LN)(f:a.length=m):∀ b:LN,Cg p (F (mulL p m md a b)) (pol m (F md) (F b) b.length (F a))
 |[]=>by
   apply Cg.of_eq
   show F (List.replicate m 0)=_
   rw[F_zero]
   rfl
 |x :: r=>by
   have ih:=mulL_spec' d md a f r
   have c:=stepM_spec d md a f x (mulL p m md a r) (qaW d md a r)
   refine Cg.trans c ?_
   rw[List.length_cons,pol_horner]
   have e:(fun i=>F (x :: r) (i+1))=F r:=by funext i;exact F_cons x r i
   rw[e]
   exact Cg.lin _ (Cg.refl _ _) (ih.sh m (F md))
theorem qbJ{p m:Nat}(f:0<p)(md a b:LN)(c:a.length=m)(d:b.length=m):Cg p (F (mulL p m md a b)) (mz m (F md) (F a) (F b)):=by have:=mulL_spec' f md a c b;rw[d] at this;exact this
theorem mz_cg{p:Int}{m:Nat}{md a c b d:Vec}(f:Cg p a c)(g:Cg p b d):Cg p (mz m md a b) (mz m md c d):=(f.pol m md b m).trans (g.coef m md c m)
theorem mulL_comm{p m:Nat}(f:0<p)(md a b:LN)(g:a.length=m)(h:b.length=m):mulL p m md a b=mulL p m md b a:=by have c:=qaW (m:=m) f md a b;have d:=qaW (m:=m) f md b a;refine F_inj (c.1.trans d.1.symm) c.2 d.2 ?_;refine(qbJ f md a b g h).trans (Cg.trans (Cg.of_eq ?_) (qbJ f md b a h g).symm);exact mz_comm m _ (qcP U0) (qcP U0)
theorem mulL_assoc{p m:Nat}(i:0<p)(md a b c:LN)(j:a.length=m)(k:b.length=m)(l:c.length=m):
 mulL p m md (mulL p m md a b) c=mulL p m md a (mulL p m md b c):=by have g:=qaW (m:=m) i md a b;have h:=qaW (m:=m) i md b c;have d:=qaW (m:=m) i md (mulL p m md a b) c;have f:=qaW (m:=m) i md a (mulL p m md b c);refine F_inj (d.1.trans f.1.symm) d.2 f.2 ?_;refine(qbJ i md _ c g.1 l).trans (Cg.trans (mz_cg (qbJ i md a b j k) (Cg.refl _ _)) ?_);refine Cg.trans (Cg.of_eq (mz_assoc m _ (qcP U0) (qcP U0))) ?_;exact(mz_cg (Cg.refl _ _) (qbJ i md b c k l).symm).trans (qbJ i md a _ j h.1).symm
def addAt(p:Nat)(c:LN)(k z:Nat):LN:=c.set k ((c.getD k 0+z) % p)
def convRow(p i ai:Nat)(b c:LN):Nat->LN
 |0=>c
 |j+1=>addAt p (convRow p i ai b c j) (i+j) (ai*b.getD j 0)
def conv(p m:Nat)(a b:LN):Nat->LN
 |0=>List.replicate (2*m-1) 0
 |i+1=>convRow p i (a.getD i 0) b (conv p m a b i) m
def redRow(p m:Nat)(md:LN)(i:Nat)(c:LN):Nat->LN
 |0=>c
 |j+1=>addAt p (redRow p m md i c j) (i-m+j) ((p-(redRow p m md i c j).getD i 0)*md.getD j 0)
def red(p m:Nat)(md c:LN):Nat->LN
 |0=>c
 |t+1=>redRow p m md (2*m-2-t) (red p m md c t) m
def refMulL(p m:Nat)(md a b:LN):LN:=(red p m md (conv p m a b m) (m-1)).take m
theorem addAt_dig{p n:Nat}(b:0<p){c:LN}(h:Dig p n c)(k z:Nat):Dig p n (addAt p c k z):=by
 refine⟨by simp[addAt,h.1],fun d hd=>?_⟩;rcases List.mem_or_eq_of_mem_set hd with h'|rfl
 . exact h.2 _ h'
 . exact Nat.mod_lt _ b
theorem F_addAt{p n:Nat}{c:LN}(d:c.length=n)(k z:Nat)(f:k<n):
 Cg p (F (addAt p c k z)) (fun j=>(z:Int)*(if j=k then 1 else 0)+F c j):=by
 apply Cg.mk;intro j;by_cases b:j=k
 . subst b;(have e:(addAt p c j z).getD j 0=(c.getD j 0+z) % p:=by simp[addAt,List.getD,d,f]);unfold F;rw[e,if_pos rfl];rw[Int.natCast_emod,Int.emod_emod,Int.natCast_add];congr 1;omega
 . (have e:(addAt p c k z).getD j 0=c.getD j 0:=by simp only[addAt,List.getD];rw[List.getElem?_set_ne U0]);unfold F;rw[e,if_neg b];simp
theorem pol_delta(m:Nat)(md:Vec)(k:Nat)(a:Vec):∀ n,k<n->pol m md (fun j=>if j=k then 1 else 0) n a=shN m md k a
 |0,h=>absurd h U0
 | n + 1,h => by
   funext j
   simp only[pol]
   by_cases hk:n=k
   . subst hk
     have:∀i,i<=n->pol m md (fun j=>if j=n then 1 else 0) i a=fun _=>0:=by
      intro i
      induction i with
      |zero=>intro _;rfl
      |succ i ih=>intro b;funext j;simp[pol,ih U0,show ¬i=n by omega]
     rw[this n zn]
     simp
   . rw[pol_delta m md k a n U0,if_neg hk]
     simp
def ev(m:Nat)(md:Vec)(c:LN)(k:Nat):Vec:=pol m md (F c) k un
theorem ev_addAt{p m:Nat}(md:Vec){n:Nat}{c:LN}(d:n<=c.length)(k z:Nat)(b:k<n):
 Cg p (ev m md (addAt p c k z) n) (fun j=>(z:Int)*shN m md k un j+ev m md c n j):=by have h:=(F_addAt (p:=p) (c:=c) rfl k z U0).coef m md un n;refine Cg.trans h ?_;rw[qdZ,pol_delta m md k un n b];exact Cg.refl _ _
theorem qdI{p n:Nat}(f:0<p)(i d:Nat)(b:LN){c:LN}(h:Dig p n c):∀j,Dig p n (convRow p i d b c j)
 |0=>h
 |j+1=>addAt_dig f (qdI f i d b h j) _ _
theorem convRow_ev{p m:Nat}(h:0<p)(md:Vec)(i f:Nat)(b:LN){c:LN}(g:Dig p (2*m-1) c)(l:i<m):
 ∀j,j<=m->Cg p (ev m md (convRow p i f b c j) (2*m-1)) (fun k=>(f:Int)*shN m md i (pol m md (F b) j un) k+ev m md c (2*m-1) k)
 |0,_=>by
   apply Cg.of_eq
   funext k
   simp[convRow,pol,qeA]
 |j + 1,hj=>by
   have h1:=ev_addAt (p:=p) (m:=m) md (n:=2*m-1) (c:=convRow p i f b c j) (Nat.le_of_eq (qdI h i f b g j).1.symm) (i+j) (f*b.getD j 0) U0
   have d:=convRow_ev h md i f b g l j U0
   refine Cg.trans h1 (Cg.trans (Cg.lin _ (Cg.refl _ _) d) (Cg.of_eq ?_))
   funext k
   have e:pol m md (F b) (j+1) un=fun k=>F b j*shN m md j un k+pol m md (F b) j un k:=rfl
   rw[e,qdN,<- shN_add]
   unfold F
   rw[Int.natCast_mul]
   grind
theorem qcO{p:Nat}(c:0<p)(m:Nat)(a b:LN):∀i,Dig p (2*m-1) (conv p m a b i)
 |0=>⟨by simp[conv],fun d hd=>by simp[conv] at hd;omega⟩
 |i+1=>qdI c i _ b (qcO c m a b i) m
theorem conv_ev{p m:Nat}(g:0<p)(md:Vec)(a b:LN)(h:b.length=m):∀ i,i<=m->Cg p (ev m md (conv p m a b i) (2*m-1)) (pol m md (F a) i (F b))
 | 0,_ => by
   apply Cg.of_eq
   have:F (conv p m a b 0)=fun _=>0:=F_zero _
   unfold ev
   rw[this]
   have d:∀n,pol m md (fun _=>0) n un=fun _=>0:=by
    intro n
    induction n with
    |zero=>rfl
    |succ n ih=>funext j;simp[pol,ih]
   rw[d]
   rfl
 |i + 1,hi=>by
   have c:=convRow_ev g md i (a.getD i 0) b (qcO g m a b i) U0 m zn
   have f:=conv_ev g md a b h i U0
   have e:pol m md (F b) m un=F b:=pol_id m md (qcP U0)
   rw[e] at c
   exact Cg.trans c (Cg.lin _ (Cg.refl _ _) f)
theorem qdW{p n:Nat}(b:0<p)(m:Nat)(md:LN)(i:Nat){c:LN}(h:Dig p n c):∀j,Dig p n (redRow p m md i c j)
 |0=>h
 |j+1=>addAt_dig b (qdW b m md i h j) _ _
theorem redRow_at{p m:Nat}(md:LN){i:Nat}(b:m<=i)(c:LN):∀ j,j<=m->(redRow p m md i c j).getD i 0=c.getD i 0
 |0,_=>rfl
 |j + 1,hj=>by
   have:=redRow_at (p:=p) md b c j U0
   rw[<- this]
   simp only[redRow,addAt,List.getD]
   rw[List.getElem?_set_ne U0]
theorem redRow_ev{p m:Nat}(q:0<p)(md:LN){i:Nat}(h:m<=i){c:LN}(o:Dig p (2*m-1) c)(l:i<2*m-1):
 ∀j,j<=m->Cg p (ev m (F md) (redRow p m md i c j) i) (fun k=>(((p-c.getD i 0:Nat):Int))*shN m (F md) (i-m) (pol m (F md) (F md) j un) k+ev m (F md) c i k)
 |0,_=>by
   apply Cg.of_eq
   funext k
   simp[redRow,pol,qeA]
 | j + 1,hj => by
   have hl:=(qdW q m md i o j).1
   have d:=ev_addAt (p:=p) (m:=m) (F md) (n:=i) (c:=redRow p m md i c j) U0 (i-m+j) ((p-(redRow p m md i c j).getD i 0)*md.getD j 0) U0
   have g:=redRow_ev q md h o l j U0
   rw[redRow_at md h c j U0] at d
   have b:Cg p (ev m (F md) (redRow p m md i c (j+1)) i) (fun k=>(((p-c.getD i 0)*md.getD j 0:Nat):Int)*shN m (F md) (i-m+j) un k+ev m (F md) (redRow p m md i c j) i k):=by
    have e:redRow p m md i c (j+1)=addAt p (redRow p m md i c j) (i-m+j) ((p-c.getD i 0)*md.getD j 0):=by
     show addAt p (redRow p m md i c j) (i-m+j) ((p-(redRow p m md i c j).getD i 0)*md.getD j 0)=_
     rw[redRow_at md h c j U0]
    rw[e]
    exact d
   refine Cg.trans b (Cg.trans (Cg.lin _ (Cg.refl _ _) g) (Cg.of_eq ?_))
   funext k
   have e:pol m (F md) (F md) (j+1) un=fun k=>F md j*shN m (F md) j un k+pol m (F md) (F md) j un k:=rfl
   rw[e,qdN,<- shN_add]
   have f:F md j=((md.getD j 0:Nat):Int):=rfl
   rw[f,Int.natCast_mul]
   grind
theorem red_step{p m:Nat}(o:0<p)(md:LN)(r:md.length=m){i:Nat}(q:m<=i){c:LN}(n:Dig p (2*m-1) c)(l:i<2*m-1):
 Cg p (ev m (F md) (redRow p m md i c m) i) (ev m (F md) c (i+1)):=by
 have d:=qeV o n i;refine Cg.trans (redRow_ev o md q n l m zn) ?_;rw[pol_id m (F md) (qcP U0)];have b:shN m (F md) i un=fun k=>(-1)*shN m (F md) (i-m) (F md) k+0:=by
  have h:i=(i-m)+m:=U0;conv=>lhs;rw[h]
  rw[shN_add,shN_un_top m (F md) U0];have e:(fun j=>if j<m then-F md j else 0)=fun j=>(-1)*F md j+(fun _=>(0:Int)) j:=by
   funext j;by_cases f:j<m
   . rw[if_pos f];show-F md j=-1*F md j+0;omega
   . rw[if_neg f,qcP (m:=m) U0 j U0];rfl
  rw[e,qdN,qeA]
 refine⟨fun k=>shN m (F md) (i-m) (F md) k,?_⟩;funext k;show _=_+(F c i*shN m (F md) i un k+ev m (F md) c i k);rw[b];have g:F c i=((c.getD i 0:Nat):Int):=rfl;rw[g,Int.natCast_sub (Nat.le_of_lt d)];grind
theorem red_dig{p:Nat}(b:0<p)(m:Nat)(md:LN){c:LN}(h:Dig p (2*m-1) c):∀t,Dig p (2*m-1) (red p m md c t)
 |0=>h
 |t+1=>qdW b m md _ (red_dig b m md h t) m
theorem red_ev{p m:Nat}(h:0<p)(md:LN)(g:md.length=m){c:LN}(j:Dig p (2*m-1) c):
 ∀t,t<=m-1->Cg p (ev m (F md) (red p m md c t) (2*m-1-t)) (ev m (F md) c (2*m-1))
 |0,_=>Cg.refl _ _
 |t + 1,ht=>by
   have h1:=red_step h md g (i:=2*m-2-t) U0 (red_dig h m md j t) U0
   have f:=red_ev h md g j t U0
   have b:2*m-1-(t+1)=2*m-2-t:=U0
   have d:2*m-2-t+1=2*m-1-t:=U0
   rw[b]
   rw[d] at h1
   exact Cg.trans h1 f
theorem refMulL_dig{p m:Nat}(c:0<p)(f:0<m)(md a b:LN):Dig p m (refMulL p m md a b):=by have:=red_dig c m md (qcO c m a b m) (m-1);exact⟨by simp[refMulL,this.1];omega,fun d hd=>this.2 d (List.mem_of_mem_take hd)⟩
theorem refMulL_spec{p m:Nat}(k:0<p)(o:0<m)(md a b:LN)(i:md.length=m)(n:a.length=m)(l:b.length=m):Cg p (F (refMulL p m md a b)) (mz m (F md) (F a) (F b)):=by
 have d:=red_ev k md i (qcO k m a b m) (m-1) zn;have f:2*m-1-(m-1)=m:=U0;rw[f] at d;have h:=conv_ev k (F md) a b l m zn;have g:F (refMulL p m md a b)=ev m (F md) (red p m md (conv p m a b m) (m-1)) m:=by
  unfold ev;rw[pol_un m _ _ m zn];funext j;unfold F refMulL;by_cases c:j<m
  . rw[if_pos c];simp[List.getD,c]
  . rw[if_neg c,qaZ so];rfl
 rw[g];refine Cg.trans d (Cg.trans h (Cg.of_eq ?_));exact mz_comm m _ (qcP U0) (qcP U0)
theorem refMulL_eq{p m:Nat}(f:0<p)(j:0<m)(md a b:LN)(g:md.length=m)(h:a.length=m)(i:b.length=m):refMulL p m md a b=mulL p m md a b:=by have c:=refMulL_dig f j md a b;have d:=qaW (m:=m) f md a b;exact F_inj (c.1.trans d.1.symm) c.2 d.2 ((refMulL_spec f j md a b g h i).trans (qbJ f md a b h i).symm)
structure Mon (q:Nat) (mul:Nat->Nat->Nat):Prop where
 lt:∀x y,mul x y<q
 comm:∀x y,mul x y=mul y x
 assoc:∀x y z,mul (mul x y) z=mul x (mul y z)
 one:∀x,x<q->mul 1 x=x
 zero:∀x,mul 0 x=0
 q1:1<q
def pw(mul:Nat->Nat->Nat)(x:Nat):Nat->Nat
 |0=>1
 |k+1=>mul (pw mul x k) x
def pows(mul:Nat->Nat->Nat)(x:Nat):Nat->Nat->LN->LN
 |0,_,acc=>acc
 |g+1,y,acc=>if y=0\/y∈acc then acc else pows mul x g (mul y x) (acc++[y])
def powers(mul:Nat->Nat->Nat)(q x:Nat):LN:=pows mul x q x [1]
def genGo(mul:Nat->Nat->Nat)(q:Nat):Nat->Nat->LN
 |0,_=>[]
 |g+1,x=>if(powers mul q x).length=q-1/\mul ((powers mul q x).getD (q-2) 0) x=1 then powers mul q x else genGo mul q g (x+1)
def genM(mul:Nat->Nat->Nat)(q:Nat):LN:=genGo mul q (q-1) 1
def pl(mul:Nat->Nat->Nat)(x k:Nat):LN:=(List.range k).map (pw mul x)
structure Tab (q:Nat) (mul:Nat->Nat->Nat) (l:LN):Prop where
 ex:∃x,1<=x/\x<q/\l=pl mul x (q-1)/\pw mul x (q-1)=1
 nd:l.Nodup
 nz:∀a∈l,a≠0
 lt:∀a∈l,a<q
theorem pigeon:∀ (n:Nat)(l:LN),l.Nodup->(∀ a∈l,a<n)->l.length<=n
 |0,l,_,h=>by
   cases l with
   |nil=>simp
   |cons a r=>exact absurd (h a (List.mem_cons_self ..)) U0
 | n + 1,l,hn,h => by
   by_cases hm:n∈l
   . have h1 := pigeon n (l.erase n) (hn.erase n) (fun a ha => by
      have b:=h a (List.mem_of_mem_erase ha)
      have c:a≠n:=fun e=>by subst e;exact(List.Nodup.not_mem_erase hn) ha
      omega)
     have b:=List.length_erase_of_mem hm
     omega
   . have h1 := pigeon n l hn (fun a ha => by
      have b:=h a ha
      have c:a≠n:=fun e=>by subst e;exact hm ha
      omega)
     omega
section
variable {q:Nat} {mul:Nat->Nat->Nat}
theorem pw_lt(H:Mon q mul)(x:Nat):∀k,pw mul x k<q
 |0=>H.q1
 |_+1=>H.lt _ _
theorem pw_add(H:Mon q mul)(x i:Nat):∀j,pw mul x (i+j)=mul (pw mul x i) (pw mul x j)
 |0=>by show pw mul x i=mul (pw mul x i) 1;rw[H.comm,H.one _ (pw_lt H x i)]
 |j+1=>by show mul (pw mul x (i+j)) x=mul (pw mul x i) (mul (pw mul x j) x);rw[pw_add H x i j,H.assoc]
theorem pw_zero(H:Mon q mul){x i:Nat}(h:pw mul x i=0)(j:Nat):pw mul x (i+j)=0:=by rw[pw_add H,h,H.zero]
theorem pw_per(H:Mon q mul){x n:Nat}(h:pw mul x n=1)(k:Nat):pw mul x (n+k)=pw mul x k:=by rw[pw_add H,h,H.one _ (pw_lt H x k)]
theorem pw_pers(H:Mon q mul){x n:Nat}(h:pw mul x n=1)(k:Nat):∀t,pw mul x (n*t+k)=pw mul x k
 |0=>by simp
 |t+1=>by rw[Nat.mul_succ,Nat.add_right_comm,Nat.add_comm (n*t+k) n,pw_per H h,pw_pers H h k t]
theorem pw_mod(H:Mon q mul){x n:Nat}(h:pw mul x n=1)(k:Nat):pw mul x (k % n)=pw mul x k:=by
 conv=>rhs;rw[<- Nat.div_add_mod k n]
 rw[pw_pers H h]
theorem pl_succ(x k:Nat):pl mul x (k+1)=pl mul x k++[pw mul x k]:=by simp[pl,List.range_succ]
theorem pl_len(x k:Nat):(pl mul x k).length=k:=by simp[pl]
theorem mem_pl{x k a:Nat}:a∈pl mul x k ↔ ∃i,i<k/\pw mul x i=a:=by simp[pl]
def Good(mul:Nat->Nat->Nat)(x k:Nat):Prop:=(pl mul x k).Nodup/\∀a∈pl mul x k,a≠0
theorem good_one(x:Nat):Good mul x 1:=by have e:pl mul x 1=[1]:=rfl;unfold Good;rw[e];simp
theorem good_succ{x k:Nat}(h:Good mul x k)(f:pw mul x k≠0)(g:pw mul x k∉pl mul x k):Good mul x (k+1):=by
 unfold Good at h ⊢;rw[pl_succ];refine⟨?_,?_⟩
 . rw[List.nodup_append];refine⟨h.1,U2,?_⟩;intro a c b d e;simp at d;subst d;subst e;exact g c
 . intro a c;rcases List.mem_append.1 c with h1|h1
   . exact h.2 a h1
   . simp at h1;rw[h1];exact f
theorem good_len(H:Mon q mul){x k:Nat}(h:Good mul x k):k<=q-1:=by
 have b:(0 :: pl mul x k).Nodup:=by rw[List.nodup_cons];exact⟨fun hm=>h.2 0 hm rfl,h.1⟩
 have c:=pigeon q _ b (fun a ha=>by
  rcases List.mem_cons.1 ha with rfl|ha
  . have:=H.q1;omega
  . obtain⟨i,_,rfl⟩:=mem_pl.1 ha
    exact pw_lt H x i)
 simp[pl_len] at c;omega
theorem pows_spec(H:Mon q mul)(x:Nat):∀ g k,Good mul x k->1<=k->∃ k',Good mul x k'/\k<=k'/\pows mul x g (pw mul x k) (pl mul x k)=pl mul x k'
 |0,k,h,_=>⟨k,h,Nat.le_refl _,rfl⟩
 | g + 1,k,h,hk => by
   by_cases hs:pw mul x k=0\/pw mul x k∈pl mul x k
   . exact⟨k,h,Nat.le_refl _,by simp[pows,hs]⟩
   . have hs' : pw mul x k ≠ 0/\pw mul x k ∉ pl mul x k:=⟨fun e=>hs (.inl e),fun e=>hs (.inr e)⟩
     obtain⟨k',b,d,c⟩:=pows_spec H x g (k+1) (good_succ h hs'.1 hs'.2) U0
     refine⟨k',b,U0,?_⟩
     rw[<- c,pl_succ]
     simp only[pows,if_neg hs]
     rfl
theorem powers_spec(H:Mon q mul){x:Nat}(d:x<q):∃k,Good mul x k/\1<=k/\powers mul q x=pl mul x k:=by
 have b:pw mul x 1=x:=by show mul 1 x=x;exact H.one x d
 obtain⟨k,h,c,e⟩:=pows_spec H x q 1 (good_one x) zn;rw[b] at e;exact⟨k,h,c,e⟩
theorem tab_of(H:Mon q mul){x:Nat}(o:1<=x)(l:x<q)(j:(powers mul q x).length=q-1)(h:mul ((powers mul q x).getD (q-2) 0) x=1):Tab q mul (powers mul q x):=by
 obtain⟨k,b,f,e⟩:=powers_spec H l;rw[e,pl_len] at j;subst j;rw[e] at h ⊢;have g:=H.q1;refine⟨⟨x,o,l,rfl,?_⟩,b.1,b.2,fun a ha=>?_⟩
 . obtain⟨n,d⟩:∃n,q=n+2:=⟨q-2,U0⟩;subst d;(have c:(pl mul x (n+2-1)).getD (n+2-2) 0=pw mul x n:=by simp[pl,List.getD]);rw[c] at h;exact h
 . obtain⟨i,_,rfl⟩:=mem_pl.1 ha;exact pw_lt H x i
theorem genGo_tab(H:Mon q mul):∀ g x,1<=x->x+g<=q->genGo mul q g x≠[]->Tab q mul (genGo mul q g x)
 |0,_,_,_,h=>absurd rfl h
 | g + 1,x,h1,h2,h => by
   unfold genGo at h ⊢
   by_cases hc:(powers mul q x).length=q-1/\mul ((powers mul q x).getD (q-2) 0) x=1
   . rw[if_pos hc]
     exact tab_of H h1 U0 hc.1 hc.2
   . rw[if_neg hc] at h ⊢
     exact genGo_tab H g (x+1) U0 U0 h
theorem genM_tab(H:Mon q mul)(h:genM mul q≠[]):Tab q mul (genM mul q):=genGo_tab H (q-1) 1 zn (by have:=H.q1;omega) h
def Prim(mul:Nat->Nat->Nat)(q x:Nat):Prop:=pw mul x (q-1)=1/\∀i,0<i->i<q-1->pw mul x i≠1
theorem prim_good(H:Mon q mul){x:Nat}(g:Prim mul q x):∀ k,1<=k->k<=q-1->Good mul x k
 |0,h,_=>absurd h U0
 |1,_,_=>good_one x
 | k + 2,_,hk => by
   refine good_succ (prim_good H g (k+1) U0 U0) ?_ ?_
   . intro h0
     have:=pw_zero H h0 (q-1-(k+1))
     rw[show k+1+(q-1-(k+1))=q-1 by omega,g.1] at this
     exact absurd this U0
   . intro d
     obtain⟨i,f,e⟩:=mem_pl.1 d
     have b:pw mul x (i+(q-1-i))=1:=by rw[show i+(q-1-i)=q-1 by omega];exact g.1
     have c:pw mul x (k+1+(q-1-i))=pw mul x (k+1-i):=by
      rw[show k+1+(q-1-i)=(q-1)+(k+1-i) by omega]
      exact pw_per H g.1 _
     rw[pw_add H] at b c
     rw[e,c] at b
     exact g.2 _ U0 U0 b
theorem pows_prim(H:Mon q mul){x:Nat}(f:Prim mul q x):∀ g k,1<=k->k<=q-1->q-1<=k+g->pows mul x g (pw mul x k) (pl mul x k)=pl mul x (q-1)
 |0,k,h1,h2,h3=>by
   obtain rfl:k=q-1:=U0
   rfl
 | g + 1,k,h1,h2,h3 => by
   by_cases c:k=q-1
   . subst c
     have:pw mul x (q-1)∈pl mul x (q-1):=mem_pl.2 ⟨0,U0,by rw[f.1];rfl⟩
     simp[pows,this]
   . have b := prim_good H f (k + 1) U0 U0
     have d:¬(pw mul x k=0\/pw mul x k∈pl mul x k):=by
      unfold Good at b
      rw[pl_succ] at b
      rintro(h|h)
      . exact b.2 _ (List.mem_append.2 (.inr (List.mem_singleton.2 rfl))) h
      . exact(List.nodup_append.1 b.1).2.2 _ h _ (List.mem_singleton.2 rfl) rfl
     have:=pows_prim H f g (k+1) U0 U0 U0
     rw[<- this,pl_succ]
     simp only[pows,if_neg d]
     rfl
theorem powers_prim(H:Mon q mul){x:Nat}(f:x<q)(d:Prim mul q x):powers mul q x=pl mul x (q-1):=by
 have b:pw mul x 1=x:=by show mul 1 x=x;exact H.one x f
 have c:=H.q1;have:=pows_prim H d q 1 zn U0 U0;rw[b] at this;exact this
theorem genGo_some(H:Mon q mul){x:Nat}(j:x<q)(i:Prim mul q x):∀ g y,1<=y->y<=x->x<y+g->genGo mul q g y≠[]
 |0,_,_,_,h=>absurd h U0
 | g + 1,y,h1,h2,h3 => by
   unfold genGo
   have hq:=H.q1
   by_cases b:(powers mul q y).length=q-1/\mul ((powers mul q y).getD (q-2) 0) y=1
   . rw[if_pos b]
     intro e
     rw[e] at b
     simp at b
     omega
   . rw [if_neg b]
     have f:y≠x:=by
      rintro rfl
      apply b
      rw[powers_prim H j i,pl_len]
      refine⟨rfl,?_⟩
      obtain⟨n,d⟩:∃n,q=n+2:=⟨q-2,U0⟩
      subst d
      have c:(pl mul y (n+2-1)).getD (n+2-2) 0=pw mul y n:=by simp[pl,List.getD]
      rw[c]
      exact i.1
     exact genGo_some H j i g (y+1) U0 U0 U0
theorem genM_some(H:Mon q mul){x:Nat}(b:1<=x)(d:x<q)(c:Prim mul q x):genM mul q≠[]:=genGo_some H d c (q-1) 1 zn b U0
theorem Tab.len{l:LN}(T:Tab q mul l):l.length=q-1:=by obtain⟨x,_,_,e,_⟩:=T.ex;rw[e,pl_len]
theorem Tab.full(H:Mon q mul){l:LN}(T:Tab q mul l){a:Nat}(i:a≠0)(j:a<q):a∈l:=by
 refine Classical.byContradiction fun hn=>?_;have c:(0 :: a :: l).Nodup:=by
  rw[List.nodup_cons,List.nodup_cons];refine⟨?_,hn,T.nd⟩;intro f;rcases List.mem_cons.1 f with h|h
  . exact i h.symm
  . exact T.nz 0 h rfl
 have g:=H.q1
 have d:=pigeon q _ c (fun b hb=>by
  rcases List.mem_cons.1 hb with rfl|hb
  . omega
  . rcases List.mem_cons.1 hb with rfl|hb
    . exact j
    . exact T.lt b hb)
 simp[T.len] at d;omega
def logGo(l:LN)(t:LN):Nat->LN
 |0=>t
 |n+1=>(logGo l t n).set (l.getD n 0) n
def logL(l:LN)(q:Nat):LN:=logGo l (List.replicate q 0) l.length
theorem qcL(l t:LN):∀n,(logGo l t n).length=t.length
 |0=>rfl
 |n+1=>by simp[logGo,qcL l t n]
theorem logGo_at(l t:LN)(p:l.Nodup)(o:∀ a∈l,a<t.length):∀ n,n<=l.length->∀ i,i<n->(logGo l t n).getD (l.getD i 0) 0=i
 |0,_,i,hi=>absurd hi U0
 | n + 1,hn,i,hi => by
   by_cases h:i=n
   . subst h
     have hm:l.getD i 0∈l:=by
      have:l.getD i 0=l[i]:=by simp[List.getD,show i<l.length by omega]
      rw[this]
      exact List.getElem_mem _
     have d:=o _ hm
     simp only[logGo,List.getD] at d ⊢
     rw[List.getElem?_set_self (by rw[qcL];exact d)]
     rfl
   . have f := logGo_at l t p o n U0 i U0
     have c:l.getD n 0≠l.getD i 0:=by
      have g:l.getD n 0=l[n]:=by simp[List.getD,show n<l.length by omega]
      have j:l.getD i 0=l[i]:=by simp[List.getD,show i<l.length by omega]
      rw[g,j]
      intro k
      exact List.pairwise_iff_getElem.1 p i n U0 U0 U0 k.symm
     show((logGo l t n).set (l.getD n 0) n).getD (l.getD i 0) 0=i
     generalize l.getD n 0=a at *
     generalize l.getD i 0=b at *
     generalize (logGo l t n)=u at *
     simp only[List.getD] at f ⊢
     rw[List.getElem?_set_ne c]
     exact f
def mulT(l lg:LN)(q x y:Nat):Nat:=if x=0\/y=0 then 0 else l.getD ((lg.getD x 0+lg.getD y 0) % (q-1)) 0
def invT(l lg:LN)(q x:Nat):Nat:=l.getD ((q-1-lg.getD x 0) % (q-1)) 0
theorem Tab.log(H:Mon q mul){l:LN}(T:Tab q mul l){a:Nat}(f:a≠0)(g:a<q):
 (logL l q).getD a 0<q-1/\l.getD ((logL l q).getD a 0) 0=a:=by
 have d:=T.full H f g;obtain⟨i,b,e⟩:=List.mem_iff_getElem.1 d;have c:l.getD i 0=a:=by simp[List.getD,b,e]
 have:=logGo_at l (List.replicate q 0) T.nd (by simpa using T.lt) l.length zn i b;unfold logL;rw[c] at this;rw[this];exact⟨by rw[<- T.len];exact b,c⟩
theorem Tab.get{l:LN}(T:Tab q mul l):∃x,1<=x/\x<q/\pw mul x (q-1)=1/\∀i,i<q-1->l.getD i 0=pw mul x i:=by obtain⟨x,b,c,rfl,d⟩:=T.ex;exact⟨x,b,c,d,fun i hi=>by simp[pl,List.getD,hi]⟩
theorem Tab.mul_eq(H:Mon q mul){l:LN}(T:Tab q mul l){x y:Nat}(n:x<q)(o:y<q):mulT l (logL l q) q x y=mul x y:=by
 unfold mulT;by_cases h:x=0\/y=0
 . rw[if_pos h];rcases h with rfl|rfl
   . rw[H.zero]
   . rw[H.comm,H.zero]
 . rw[if_neg h];have c:x≠0:=fun e=>h (.inl e);have d:y≠0:=fun e=>h (.inr e);obtain⟨f,g⟩:=T.log H c n;obtain⟨i,j⟩:=T.log H d o;obtain⟨z,_,_,k,b⟩:=T.get;have m:=H.q1;rw[b _ (Nat.mod_lt _ U0),pw_mod H k,pw_add H,<- b _ f,<- b _ i,g,j]
theorem Tab.inv(H:Mon q mul){l:LN}(T:Tab q mul l){x:Nat}(n:x≠0)(o:x<q):mul x (invT l (logL l q) q x)=1/\invT l (logL l q) q x<q/\invT l (logL l q) q x≠0:=by
 obtain⟨g,j⟩:=T.log H n o;obtain⟨z,_,_,f,d⟩:=T.get;have k:=H.q1;have e:invT l (logL l q) q x=pw mul z (q-1-(logL l q).getD x 0):=by unfold invT;rw[d _ (Nat.mod_lt _ U0),pw_mod H f]
 rw[e];have b:mul x (pw mul z (q-1-(logL l q).getD x 0))=1:=by
  have c:x=pw mul z ((logL l q).getD x 0):=by rw[<- d _ g,j]
  generalize (logL l q).getD x 0=i at *;rw[c,<- pw_add H,show i+(q-1-i)=q-1 by omega,f]
 refine⟨b,pw_lt H z _,fun h=>?_⟩;rw[h,H.comm,H.zero] at b;exact absurd b U0
theorem Tab.inv_uniq(H:Mon q mul){x y z:Nat}(g:y<q)(h:z<q)(d:mul x y=1)(f:mul x z=1):y=z:=by
 have b:mul (mul z x) y=y:=by rw[H.comm z x,f,H.one y g]
 have c:mul (mul z x) y=z:=by rw[H.assoc,d,H.comm,H.one z h]
 exact b.symm.trans c
theorem Tab.nodiv(H:Mon q mul){l:LN}(T:Tab q mul l){x y:Nat}(p:x<q)(r:y<q)(n:x≠0)(o:y≠0):mul x y≠0:=by
 obtain⟨f,g⟩:=T.log H n p;obtain⟨h,i⟩:=T.log H o r;obtain⟨z,_,_,j,c⟩:=T.get;have k:=H.q1;intro d;have e:mul x y=pw mul z (((logL l q).getD x 0+(logL l q).getD y 0) % (q-1)):=by rw[pw_mod H j,pw_add H,<- c _ f,<- c _ h,g,i]
 have b:((logL l q).getD x 0+(logL l q).getD y 0) % (q-1)<q-1:=Nat.mod_lt _ U0;rw[e,<- c _ b] at d;refine T.nz _ ?_ d;have:l.getD (((logL l q).getD x 0+(logL l q).getD y 0) % (q-1)) 0=l[((logL l q).getD x 0+(logL l q).getD y 0) % (q-1)]'(by rw[T.len];exact b):=by rw[List.getD_eq_getElem?_getD,List.getElem?_eq_getElem (by rw[T.len];exact b)];rfl
 rw[this];exact List.getElem_mem _
def invGo(mul:Nat->Nat->Nat)(x:Nat):Nat->Nat->Nat
 |0,_=>0
 |g+1,y=>if mul x y=1 then y else invGo mul x g (y+1)
def refInv(mul:Nat->Nat->Nat)(q x:Nat):Nat:=invGo mul x (q-1) 1
theorem invGo_spec(H:Mon q mul){x z:Nat}(b:z<q)(h:mul x z=1):∀ g y,y<=z->z<y+g->y+g<=q->invGo mul x g y=z
 |0,_,_,h2,_=>absurd h2 U0
 | g + 1,y,h1,h2,h3 => by
   unfold invGo
   by_cases hc:mul x y=1
   . rw[if_pos hc]
     exact Tab.inv_uniq H U0 b hc h
   . rw[if_neg hc]
     have:y≠z:=fun e=>hc (e ▸ h)
     exact invGo_spec H b h g (y+1) U0 U0 U0
theorem refInv_eq(H:Mon q mul){l:LN}(T:Tab q mul l){x:Nat}(g:x≠0)(h:x<q):refInv mul q x=invT l (logL l q) q x:=by obtain⟨b,c,d⟩:=T.inv H g h;have f:=H.q1;exact invGo_spec H c b (q-1) 1 U0 U0 U0
end
def mulM(p m:Nat)(md:LN)(x y:Nat):Nat:=val p (mulL p m md (digs p m x) (digs p m y))
theorem mulM_dig{p m:Nat}(b:0<p)(md:LN)(x y:Nat):digs p m (mulM p m md x y)=mulL p m md (digs p m x) (digs p m y):=by have h:=qaW (m:=m) b md (digs p m x) (digs p m y);have:=qcR b _ h.2;rw[h.1] at this;exact this
theorem F_digs_zero(p m:Nat):F (digs p m 0)=fun _=>0:=by
 have:∀m,digs p m 0=List.replicate m 0:=by
  intro m;induction m with
  |zero=>rfl
  |succ m ih=>simp[digs,ih,List.replicate_succ]
 rw[this,F_zero]
theorem digs_zero(p:Nat):∀m,digs p m 0=List.replicate m 0
 |0=>rfl
 |m+1=>by simp[digs,digs_zero p m,List.replicate_succ]
theorem val_zero(p:Nat):∀m,val p (List.replicate m 0)=0
 |0=>rfl
 |m+1=>by simp[val,val_zero p m,List.replicate_succ]
theorem F_digs_one{p m:Nat}(b:1<p)(c:0<m):F (digs p m 1)=un:=by
 obtain⟨n,rfl⟩:∃n,m=n+1:=⟨m-1,U0⟩;have e:digs p (n+1) 1=1 :: List.replicate n 0:=by simp only[digs];rw[Nat.mod_eq_of_lt b,Nat.div_eq_of_lt b,digs_zero]
 rw[e];funext j;cases j with
 |zero=>rfl
 |succ j=>rw[F_cons,F_zero];rfl
theorem dig_zero_of{p m:Nat}{l:LN}(h:Dig p m l)(c:Cg p (F l) (fun _=>0)):l=List.replicate m 0:=by
 refine F_inj (p:=p) (by simp[h.1]) h.2 ?_ ?_
 . intro d hd;have b:0<p:=by
    cases l with
    |nil=>have:=h.1;simp at this;subst this;simp at hd
    |cons a r=>have:=h.2 a (List.mem_cons_self ..);omega
   simp at hd;omega
 . rw[F_zero];exact c
theorem qaV{p m:Nat}(d:1<p)(f:0<m)(md:LN):Mon (p ^ m) (mulM p m md) where
 lt x y:=by
  have h:=qaW (m:=m) (by omega:0<p) md (digs p m x) (digs p m y)
  have:=val_lt (by omega:0<p) _ h.2
  rw[h.1] at this
  exact this
 comm x y:=by unfold mulM;rw[mulL_comm U0 md _ _ (qaK p m x) (qaK p m y)]
 assoc x y z:=by
  show val p (mulL p m md (digs p m (mulM p m md x y)) (digs p m z))=val p (mulL p m md (digs p m x) (digs p m (mulM p m md y z)))
  rw[mulM_dig U0,mulM_dig U0,mulL_assoc U0 md _ _ _ (qaK p m x) (qaK p m y) (qaK p m z)]
 one x hx:=by
  have h:=qaW (m:=m) (by omega:0<p) md (digs p m 1) (digs p m x)
  have b:=qcB (by omega:0<p) m x
  have e:mulL p m md (digs p m 1) (digs p m x)=digs p m x:=by
   refine F_inj (p:=p) (h.1.trans b.1.symm) h.2 b.2 ?_
   refine(qbJ U0 md _ _ (qaK p m 1) (qaK p m x)).trans (Cg.of_eq ?_)
   rw[F_digs_one d f,mz_un]
   funext j
   by_cases c:j<m
   . rw[if_pos c]
   . rw[if_neg c,qcP (m:=m) (by rw[b.1];exact Nat.le_refl _) j U0]
  unfold mulM
  rw[e,val_digs U0 m x hx]
 zero x:=by
  have h:=qaW (m:=m) (by omega:0<p) md (digs p m 0) (digs p m x)
  have e:mulL p m md (digs p m 0) (digs p m x)=List.replicate m 0:=by
   refine dig_zero_of h ?_
   refine(qbJ U0 md _ _ (qaK p m 0) (qaK p m x)).trans (Cg.of_eq ?_)
   rw[F_digs_zero]
   exact pol_zero m _ _ m
  unfold mulM
  rw[e,val_zero]
 q1:=Nat.one_lt_pow U0 d
def divRow(p d:Nat)(low:LN)(i c:Nat)(r:LN):Nat->LN
 |0=>r
 |j+1=>addAt p (divRow p d low i c r j) (i-d+j) ((p-c)*low.getD j 0)
def divGo(p:Nat)(low r:LN):Nat->LN
 |0=>r
 |t+1=>(divRow p low.length low (r.length-1-t) ((divGo p low r t).getD (r.length-1-t) 0) (divGo p low r t) low.length).set (r.length-1-t) 0
def dividesM(p:Nat)(low md:LN):Bool:=(divGo p low (md++[1]) (md.length+1-low.length)).all (·==0)
def irrM(p:Nat)(md:LN):Bool:=(List.range (md.length / 2)).all fun d=>(List.range (p^(d+1))).all fun v=>!dividesM p (digs p (d+1) v) md
theorem qcY{p n:Nat}(b:0<p)(d:Nat)(low:LN)(i c:Nat){r:LN}(h:Dig p n r):∀j,Dig p n (divRow p d low i c r j)
 |0=>h
 |j+1=>addAt_dig b (qcY b d low i c h j) _ _
theorem divGo_dig{p n:Nat}(b:0<p)(low:LN){r:LN}(h:Dig p n r):∀ t,Dig p n (divGo p low r t)
 |0=>h
 |t + 1=>by
   have h1:=qcY b low.length low (r.length-1-t) ((divGo p low r t).getD (r.length-1-t) 0) (divGo_dig b low h t) low.length
   refine⟨by unfold divGo;rw[List.length_set];exact h1.1,fun d hd=>?_⟩
   rcases List.mem_or_eq_of_mem_set hd with h'|rfl
   . exact h1.2 _ h'
   . exact b
theorem divRow_ev{p m:Nat}(f:0<p)(md:Vec)(low:LN)(i c:Nat){n:Nat}{r:LN}(g:Dig p n r)(hd:low.length<=i)(h:i<n):
 ∀j,j<=low.length->Cg p (ev m md (divRow p low.length low i c r j) n) (fun k=>(((p-c:Nat):Int))*shN m md (i-low.length) (pol m md (F low) j un) k+ev m md r n k)
 |0,_=>by
   apply Cg.of_eq
   funext k
   simp[divRow,pol,qeA]
 |j + 1,hj=>by
   have h1:=ev_addAt (p:=p) (m:=m) md (n:=n) (c:=divRow p low.length low i c r j) (Nat.le_of_eq (qcY f low.length low i c g j).1.symm) (i-low.length+j) ((p-c)*low.getD j 0) U0
   have d:=divRow_ev (m:=m) f md low i c g hd h j U0
   refine Cg.trans h1 (Cg.trans (Cg.lin _ (Cg.refl _ _) d) (Cg.of_eq ?_))
   funext k
   have e:pol m md (F low) (j+1) un=fun k=>F low j*shN m md j un k+pol m md (F low) j un k:=rfl
   rw[e,qdN,<- shN_add]
   have b:F low j=((low.getD j 0:Nat):Int):=rfl
   rw[b,Int.natCast_mul]
   grind
theorem divRow_at{p:Nat}(d:Nat)(low:LN){i:Nat}(hd:d<=i)(c:Nat)(r:LN):∀ j,j<=d->(divRow p d low i c r j).getD i 0=r.getD i 0
 |0,_=>rfl
 |j + 1,hj=>by
   have:=divRow_at (p:=p) d low hd c r j U0
   rw[<- this]
   simp only[divRow,addAt,List.getD]
   rw[List.getElem?_set_ne U0]
theorem F_set0{r:LN}{i:Nat}(c:i<r.length):F (r.set i 0)=fun j=>(- ((r.getD i 0:Nat):Int))*(if j=i then 1 else 0)+F r j:=by
 funext j;unfold F;by_cases b:j=i
 . subst b;rw[if_pos rfl];simp[List.getD,c];omega
 . rw[if_neg b];simp only[List.getD];rw[List.getElem?_set_ne U0];simp
def G(m:Nat)(md:Vec)(low:LN):Vec:=fun k=>shN m md low.length un k+pol m md (F low) low.length un k
theorem div_step{p m:Nat}(o:0<p)(md:Vec)(low:LN)(i:Nat){n:Nat}{r:LN}(s:Dig p n r)(hd:low.length<=i)(t:i<n):
 Cg p (ev m md ((divRow p low.length low i (r.getD i 0) r low.length).set i 0) n) (fun k=>(- ((r.getD i 0:Nat):Int))*shN m md (i-low.length) (G m md low) k+ev m md r n k):=by
 have h:=divRow_ev (m:=m) o md low i (r.getD i 0) s hd t low.length zn;have l:=(qcY o low.length low i (r.getD i 0) s low.length).1;have b:=divRow_at (p:=p) low.length low hd (r.getD i 0) r low.length zn;have c:=qeV o s i;generalize j:divRow p low.length low i (r.getD i 0) r low.length=D at *;have d:ev m md (D.set i 0) n=fun k=>(- ((D.getD i 0:Nat):Int))*shN m md i un k+ev m md D n k:=by unfold ev;rw[F_set0 U0,qdZ,pol_delta m md i un n t]
 rw[d,b];refine Cg.trans (Cg.lin _ (Cg.refl _ _) h) ?_;have f:shN m md i un=shN m md (i-low.length) (shN m md low.length un):=by rw[<- shN_add];congr 1;omega
 have g:G m md low=fun k=>1*shN m md low.length un k+pol m md (F low) low.length un k:=by funext k;simp[G]
 rw[f,g,qdN];refine⟨fun k=>shN m md (i-low.length) (pol m md (F low) low.length un) k,?_⟩;funext k;rw[Int.natCast_sub (Nat.le_of_lt c)];grind
theorem div_all{p m:Nat}(A:0<p)(md:Vec)(low:LN){r:LN}(C:Dig p (m+1) r)(hd:low.length<=m)(z:r.getD m 0=1)(B:1<p):
 ∀t,t<=m+1-low.length->∃h:Nat->Nat,(∀k,h k<p)/\(∀k,m-low.length<k->h k=0)/\(∀k,k+t<m+1-low.length->h k=0)/\(0<t->h (m-low.length)=1)/\
  Cg p (ev m md (divGo p low r t) (m+1)) (fun j=>(-1)*pol m md (fun k=>(h k:Int)) (m+1-low.length) (G m md low) j+ev m md r (m+1) j)
 | 0,_ => by
   refine⟨fun _=>0,fun _=>A,fun _ _=>rfl,fun _ _=>rfl,fun h=>absurd h U0,Cg.of_eq ?_⟩
   funext j
   have h0:∀n,pol m md (fun _=>((0:Nat):Int)) n (G m md low)=fun _=>0:=by
    intro n
    induction n with
    |zero=>rfl
    |succ n ih=>funext j;show((0:Nat):Int)*_+pol m md (fun _=>((0:Nat):Int)) n (G m md low) j=0;rw[ih];simp
   rw[h0]
   simp[divGo]
 | t + 1,ht => by
   obtain⟨h,l,o,f,q,s⟩:=div_all A md low C hd z B t U0
   have g:=divGo_dig A low C t
   have v:r.length-1-t=m-t:=by rw[C.1];omega
   have x:=div_step (m:=m) A md low (m-t) g U0 U0
   have d:=qeV A g (m-t)
   have e:divGo p low r (t+1)=(divRow p low.length low (m-t) ((divGo p low r t).getD (m-t) 0) (divGo p low r t) low.length).set (m-t) 0:=by
    show(divRow p low.length low (r.length-1-t) ((divGo p low r t).getD (r.length-1-t) 0) (divGo p low r t) low.length).set (r.length-1-t) 0=_
    rw[v]
   generalize u:(divGo p low r t).getD (m-t) 0=c at *
   refine⟨fun k=>if k=m-t-low.length then c else h k,?_,?_,?_,?_,?_⟩
   . intro k
     show(if k=m-t-low.length then c else h k)<p
     split
     . exact d
     . exact l k
   . intro k b
     show(if k=m-t-low.length then c else h k)=0
     rw[if_neg U0]
     exact o k b
   . intro k b
     show(if k=m-t-low.length then c else h k)=0
     rw[if_neg U0]
     exact f k U0
   . intro _
     show(if m-low.length=m-t-low.length then c else h (m-low.length))=1
     by_cases h0:t=0
     . subst h0
       rw[if_pos U0,<- u]
       exact z
     . rw[if_neg U0]
       exact q U0
   . rw [e]
     refine Cg.trans x (Cg.trans (Cg.lin _ (Cg.refl _ _) s) (Cg.of_eq ?_))
     have y:h (m-t-low.length)=0:=f _ U0
     have i:(fun k=>(((if k=m-t-low.length then c else h k):Nat):Int))=fun k=>(c:Int)*(if k=m-t-low.length then 1 else 0)+(fun k=>(h k:Int)) k:=by
      funext k
      by_cases b:k=m-t-low.length
      . subst b
        simp[y]
      . simp[b]
     rw[i,qdZ,pol_delta m md (m-t-low.length) (G m md low) (m+1-low.length) U0]
     funext j
     grind
theorem ev_zero(m:Nat)(md:Vec)(r:LN)(h:r.all (·==0)=true)(n:Nat):ev m md r n=fun _=>0:=by
 have d:F r=fun _=>0:=by
  funext j;unfold F;by_cases c:j<r.length
  . (have:r.getD j 0=r[j]:=by simp[List.getD,c]);rw[this];have b:=List.all_eq_true.1 h _ (List.getElem_mem c);simp at b;simp[b]
  . rw[qaZ U0];rfl
 unfold ev;rw[d];induction n with
 |zero=>rfl
 |succ n ih=>funext j;simp[pol,ih]
theorem ev_self{m:Nat}(g:0<m)(md:LN)(f:md.length=m):ev m (F md) (md++[1]) (m+1)=fun _=>0:=by
 unfold ev;have c:∀k,k<=m->pol m (F md) (F (md++[1])) k un=pol m (F md) (F md) k un:=by
  intro k;induction k with
  |zero=>intro _;rfl
  |succ k ih=>intro d;funext j;simp only[pol,ih U0];(have:F (md++[1]) k=F md k:=by unfold F;simp only[List.getD];rw[List.getElem?_append_left U0]);rw[this]
 funext j;show F (md++[1]) m*shN m (F md) m un j+pol m (F md) (F (md++[1])) m un j=0;rw[c m zn,pol_id m (F md) (qcP U0),shN_un_top m (F md) g];have:F (md++[1]) m=1:=by unfold F;simp[List.getD,<- f]
 rw[this];simp only;by_cases b:j<m
 . rw[if_pos b];omega
 . rw[if_neg b,qcP (m:=m) U0 j U0];rfl
theorem val_ne{p:Nat}(c:0<p):∀ (l:LN)(j:Nat),l.getD j 0≠0->val p l≠0
 |[],j,h=>by simp at h
 |d :: r,0,h=>by
   simp[List.getD] at h
   simp only[val]
   omega
 |d :: r,j + 1,h=>by
   have:=val_ne c r j (by simpa[List.getD] using h)
   simp only[val]
   have b:0<p*val p r:=Nat.mul_pos c U0
   omega
theorem div_zero{p m:Nat}(Q:1<p)(md low:LN)(M:Dig p m md)(O:∀ d∈low,d<p)(P:1<=low.length)(N:low.length<m)(h:dividesM p low md=true):
 ∃x y,x<p^m/\y<p^m/\x≠0/\y≠0/\mulM p m md x y=0:=by
 have J:0<m:=U0;have K:Dig p (m+1) (md++[1]):=by
  refine⟨by simp[M.1],fun d hd=>?_⟩;rcases List.mem_append.1 hd with h|h
  . exact M.2 d h
  . simp at h;omega
 have r:(md++[1]).getD m 0=1:=by simp[List.getD,<- M.1]
 obtain⟨g,D,A,_,E,B⟩:=div_all (m:=m) U0 (F md) low K U0 r Q (m+1-low.length) zn;unfold dividesM at h;rw[M.1] at h;rw[ev_zero m (F md) _ h,ev_self J md M.1] at B;have H:Cg p (pol m (F md) (fun k=>(g k:Int)) (m+1-low.length) (G m (F md) low)) (fun _=>0):=by obtain⟨t,L⟩:=B;refine⟨t,?_⟩;funext j;have:=congrFun L j;simp only[Int.add_zero] at this ⊢;omega
 have s:∀n,pol m (F md) (fun k=>(g k:Int)) (m+1-low.length+n) (G m (F md) low)=pol m (F md) (fun k=>(g k:Int)) (m+1-low.length) (G m (F md) low):=by
  intro n;induction n with
  |zero=>rfl
  |succ n ih=>funext j;show(g (m+1-low.length+n):Int)*_+pol m (F md) (fun k=>(g k:Int)) (m+1-low.length+n) (G m (F md) low) j=_;rw[A _ U0,ih];simp
 have I:Cg p (mz m (F md) (G m (F md) low) (fun k=>(g k:Int))) (fun _=>0):=by have:=s (low.length-1);rw[show m+1-low.length+(low.length-1)=m by omega] at this;unfold mz;rw[this];exact H
 have l:F (low++[1]++List.replicate (m-1-low.length) 0)=G m (F md) low:=by
  unfold G;rw[shN_un m (F md) _ N,pol_un m (F md) _ _ U0];funext j;unfold F;by_cases q:j<low.length
  . (have i:¬j=low.length:=by omega);simp only[if_neg i,if_pos q,List.getD];rw[List.append_assoc,List.getElem?_append_left q];omega
  . by_cases i : j = low.length
    . subst i;simp[List.getD]
    . simp only[if_neg i,if_neg q,List.getD];rw[List.getElem?_append_right so];simp[List.getElem?_replicate];split<;>simp
 have c:Dig p m (low++[1]++List.replicate (m-1-low.length) 0):=by
  refine⟨so,fun d hd=>?_⟩;simp at hd;rcases hd with h|h|h
  . exact O d h
  . omega
  . omega
 have f:Dig p m ((List.range m).map g):=by refine⟨U2,fun d hd=>?_⟩;obtain⟨k,_,rfl⟩:=List.mem_map.1 hd;exact D k
 have u:F ((List.range m).map g)=fun k=>(g k:Int):=by
  funext j;unfold F;by_cases q:j<m
  . simp[List.getD,q]
  . rw[qaZ so,A j U0]
 generalize low++[1]++List.replicate (m-1-low.length) 0=o at l c;have b:0<p:=U0;refine⟨val p o,val p ((List.range m).map g),?_,?_,?_,?_,?_⟩
 . have:=val_lt b o c.2;rwa [c.1] at this
 . have:=val_lt b _ f.2;rwa [f.1] at this
 . apply val_ne b o low.length;intro C;(have:F o low.length=0:=by unfold F;rw[C];rfl);rw[l] at this;unfold G at this;rw[shN_un m (F md) _ N,pol_un m (F md) _ _ U0] at this;simp at this
 . apply val_ne b _ (m-low.length);have:=E U0;simp[List.getD,show m-low.length<m by omega,this]
 . unfold mulM;have v:=qcR b o c.2;have z:=qcR b _ f.2;rw[c.1] at v;rw[f.1] at z;rw[v,z];have hd:=qaW (m:=m) b md o ((List.range m).map g);have:=dig_zero_of hd (Cg.trans (qbJ b md _ _ c.1 f.1) (by rw[l,u];exact I));rw[this,val_zero]
theorem irr_of_tab{p m:Nat}(r:1<p)(md:LN)(o:Dig p m md){l:LN}(T:Tab (p^m) (mulM p m md) l):irrM p md=true:=by
 refine Classical.byContradiction fun b=>?_;rw[Bool.not_eq_true] at b;unfold irrM at b;rw[List.all_eq_false] at b;obtain⟨d,hd,b⟩:=b;rw[Bool.not_eq_true,List.all_eq_false] at b;obtain⟨v,n,b⟩:=b;simp at b hd;have h:=o.1;by_cases g:0<m
 . obtain⟨x,y,i,j,c,f,k⟩:=div_zero r md (digs p (d+1) v) o (qdU U0 _ _) (by rw[qaK];omega) (by rw[qaK];omega) b;exact T.nodiv (qaV r g md) i j c f k
 . omega
def pwF(mul:Nat->Nat->Nat)(x:Nat):Nat->Nat->Nat
 |0,_=>1
 |g+1,n=>if n=0 then 1 else if n % 2=1 then mul (mul (pwF mul x g (n / 2)) (pwF mul x g (n / 2))) x else mul (pwF mul x g (n / 2)) (pwF mul x g (n / 2))
def primT(mul:Nat->Nat->Nat)(n:Nat)(rs:LN)(x:Nat):Bool:=pwF mul x 9 n==1 && rs.all fun r=>pwF mul x 9 (n / r) != 1
def rsOK(n:Nat)(rs:LN):Bool:=(List.range n).all fun d=>d==0 || n % d != 0 || rs.any fun r=>n / r % d==0
section
variable {q:Nat} {mul:Nat->Nat->Nat}
theorem pwF_eq(H:Mon q mul)(x:Nat):∀ g n,n<2 ^ g->pwF mul x g n=pw mul x n
 |0,n,h=>by
   have:n=0:=by simpa using h
   subst this
   rfl
 | g + 1,n,h => by
   have d:=pwF_eq H x g (n / 2) (by rw[Nat.pow_succ] at h;omega)
   unfold pwF
   rw[d,<- pw_add H]
   by_cases b:n=0
   . rw[if_pos b,b]
     rfl
   . rw [if_neg b]
     by_cases c:n % 2=1
     . rw[if_pos c]
       show pw mul x (n / 2+n / 2+1)=_
       congr 1
       omega
     . rw[if_neg c]
       congr 1
       omega
theorem low_order(H:Mon q mul){x n:Nat}(j:pw mul x n=1):∀i,0<i->i<n->pw mul x i=1->∃d,0<d/\d<n/\n % d=0/\pw mul x d=1:=by
 intro i;induction i using Nat.strongRecOn with
 |_ i ih=>
  intro b f c;by_cases g:n % i=0
  . exact⟨i,b,f,g,c⟩
  . have h:n % i<i:=Nat.mod_lt _ b;exact ih (n % i) h U0 U0 (by rw[pw_mod H c,j])
theorem prim_of(H:Mon q mul){y:LN}(v:rsOK (q-1) y=true)(z:q<=256){x:Nat}(h:primT mul (q-1) y x=true):Prim mul q x:=by
 unfold primT at h;rw[Bool.and_eq_true] at h;obtain⟨g,n⟩:=h;rw[pwF_eq H x 9 _ U0] at g;have c:pw mul x (q-1)=1:=by simpa using g
 refine⟨c,fun i h0 hi he=>?_⟩;obtain⟨d,u,k,l,m⟩:=low_order H c i h0 hi he;unfold rsOK at v;have b:=List.all_eq_true.1 v d (List.mem_range.2 k);simp only[Bool.or_eq_true,beq_iff_eq,bne_iff_ne,ne_eq] at b;rcases b with(b|b)|b
 . omega
 . exact b l
 . obtain⟨r,t,o⟩:=List.any_eq_true.1 b;have f:=List.all_eq_true.1 n r t;(have p:(q-1) / r<2^9:=by have:=Nat.div_le_self (q-1) r;omega);rw[pwF_eq H x 9 _ p] at f;(have s:(q-1) / r % d=0:=by simpa using o);have j:=pw_mod H m ((q-1) / r);rw[s] at j;simp at f;exact f j.symm
end
def force{α:Type}(n:Nat)(f:Nat->α):α:=Nat.rec (f 0) (fun k _=>f (k+1)) n
theorem force_eq{α:Type}(n:Nat)(f:Nat->α):force n f=f n:=by cases n<;>rfl
def fl{α:Type}:LN->(LN->α)->α
 |[],k=>k []
 |x :: r,k=>force x fun y=>fl r fun s=>k (y :: s)
theorem fl_eq{α:Type}:∀(l:LN)(k:LN->α),fl l k=k l
 |[],_=>rfl
 |x :: r,k=>by simp only[fl,force_eq,fl_eq r]
def mulLS{α:Type}(p m:Nat)(md a:LN):LN->(LN->α)->α
 |[],k=>k (List.replicate m 0)
 |x :: r,k=>mulLS p m md a r fun out=>fl (stepM p m md a x out) k
theorem mulLS_eq{α:Type}(p m:Nat)(md a:LN):∀(b:LN)(k:LN->α),mulLS p m md a b k=k (mulL p m md a b)
 |[],_=>rfl
 |x :: r,k=>by simp only[mulLS,mulLS_eq p m md a r,fl_eq];rfl
def mulMS{α:Type}(p m:Nat)(md:LN)(x y:Nat)(k:Nat->α):α:=fl (digs p m x) fun a=>fl (digs p m y) fun b=>mulLS p m md a b fun l=>force (val p l) k
theorem mulMS_eq{α:Type}(p m:Nat)(md:LN)(x y:Nat)(k:Nat->α):mulMS p m md x y k=k (mulM p m md x y):=by unfold mulMS mulM;rw[fl_eq,fl_eq,mulLS_eq,force_eq]
def pwS{α:Type}(p m:Nat)(md:LN)(x:Nat):Nat->Nat->(Nat->α)->α
 |0,_,k=>k 1
 |g+1,n,k=>if n=0 then k 1 else force (n / 2) fun h=>pwS p m md x g h fun y=>mulMS p m md y y fun s=>if n % 2=1 then mulMS p m md s x k else k s
theorem pwS_eq{α:Type}(p m:Nat)(md:LN)(x:Nat):∀ (g n:Nat)(k:Nat->α),pwS p m md x g n k=k (pwF (mulM p m md) x g n)
 |0,_,_=>rfl
 | g + 1,n,k => by
   unfold pwS pwF
   by_cases h0:n=0
   . rw[if_pos h0,if_pos h0]
   . rw[if_neg h0,if_neg h0,force_eq,pwS_eq p m md x g,mulMS_eq]
     by_cases h1:n % 2=1
     . rw[if_pos h1,if_pos h1,mulMS_eq]
     . rw[if_neg h1,if_neg h1]
def primS(p m:Nat)(md:LN)(n:Nat)(rs:LN)(x:Nat):Bool:=pwS p m md x 9 n (·==1) && rs.all fun r=>force (n / r) fun e=>pwS p m md x 9 e (· != 1)
theorem primS_eq(p m:Nat)(md:LN)(n:Nat)(b:LN)(x:Nat):primS p m md n b x=primT (mulM p m md) n b x:=by unfold primS primT;simp only[force_eq,pwS_eq]
def divRowS{α:Type}(p d:Nat)(low:LN)(i c:Nat)(r:LN):Nat->(LN->α)->α
 |0,k=>k r
 |j+1,k=>divRowS p d low i c r j fun s=>fl (addAt p s (i-d+j) ((p-c)*low.getD j 0)) k
theorem divRowS_eq{α:Type}(p d:Nat)(low:LN)(i c:Nat)(r:LN):∀(j:Nat)(k:LN->α),divRowS p d low i c r j k=k (divRow p d low i c r j)
 |0,_=>rfl
 |j+1,k=>by simp only[divRowS,divRowS_eq p d low i c r j,fl_eq];rfl
def divGoS{α:Type}(p:Nat)(low r:LN):Nat->(LN->α)->α
 |0,k=>k r
 |t+1,k=>divGoS p low r t fun s=>force (r.length-1-t) fun i=>force (s.getD i 0) fun c=>divRowS p low.length low i c s low.length fun u=>fl (u.set i 0) k
theorem divGoS_eq{α:Type}(p:Nat)(low r:LN):∀(t:Nat)(k:LN->α),divGoS p low r t k=k (divGo p low r t)
 |0,_=>rfl
 |t+1,k=>by simp only[divGoS,divGoS_eq p low r t,fl_eq,force_eq,divRowS_eq];rfl
def okV(p m:Nat)(rs:LN)(v d w:Nat):Bool:=
 fl (digs p m v) fun md=>if d=0 then w != 0 && Nat.blt w (p^m) && primS p m md (p^m-1) rs w
  else Nat.ble (2*d) m && Nat.blt w (p^d) && fl (digs p d w) fun low=>divGoS p low (md++[1]) (m+1-d) fun r=>r.all (·==0)
def chkV(p m:Nat)(rs:LN):Nat->List (Nat × Nat)->Bool
 |v,[]=>v==p^m
 |v,e :: r=>okV p m rs v e.1 e.2 && chkV p m rs (v+1) r
theorem okV_spec{p m:Nat}(r:1<p)(o:0<m)(s:p^m<=256){n:LN}(k:rsOK (p^m-1) n=true){v d w:Nat}(h:okV p m n v d w=true)(l:irrM p (digs p m v)=true):genM (mulM p m (digs p m v)) (p^m)≠[]:=by
 unfold okV at h;rw[fl_eq] at h;by_cases hd:d=0
 . rw[if_pos hd,primS_eq] at h;simp only[Bool.and_eq_true,bne_iff_ne,ne_eq,Nat.blt_eq] at h;have H:=qaV r o (digs p m v);exact genM_some H U0 h.1.2 (prim_of H k s h.2)
 . rw[if_neg hd,fl_eq,divGoS_eq] at h;simp only[Bool.and_eq_true,Nat.blt_eq,Nat.ble_eq] at h;obtain⟨⟨j,g⟩,i⟩:=h;exfalso;(have b:dividesM p (digs p d w) (digs p m v)=true:=by unfold dividesM;rw[qaK,qaK];exact i);unfold irrM at l;have c:=List.all_eq_true.1 l (d-1) (List.mem_range.2 (by rw[qaK];omega));rw[show d-1+1=d by omega] at c;have f:=List.all_eq_true.1 c w (List.mem_range.2 g);rw[b] at f;cases f
theorem chkV_spec{p m:Nat}{c:LN}:∀ (t:List (Nat × Nat))(v u:Nat),chkV p m c v t=true->v<=u->u<p ^ m->∃ d w,okV p m c u d w=true
 |[],v,u,h,h1,h2=>by
   have:v=p^m:=by simpa[chkV] using h
   omega
 | e :: r,v,u,h,h1,h2 => by
   unfold chkV at h
   rw[Bool.and_eq_true] at h
   by_cases b:v=u
   . subst b
     exact⟨_,_,h.1⟩
   . exact chkV_spec r (v+1) u h.2 U0 h2
theorem qbS{p m:Nat}(i:1<p)(k:0<m)(o:p^m<=256){l:LN}{t:List (Nat × Nat)}(j:rsOK (p^m-1) l=true)(n:chkV p m l 0 t=true){md:LN}(g:Dig p m md):(genM (mulM p m md) (p^m)≠[]) ↔ irrM p md=true:=by
 constructor
 . intro h;exact irr_of_tab i md g (genM_tab (qaV i k md) h)
 . intro h;have b:0<p:=U0;have f:=val_lt b md g.2;have e:=qcR b md g.2;rw[g.1] at f e;obtain⟨d,w,c⟩:=chkV_spec t 0 (val p md) n (Nat.zero_le _) f;have:=okV_spec i k o j c (by rw[e];exact h);rw[e] at this;exact this
def primeB(n:Nat):Bool:=(List.range n).all fun d=>Nat.blt d 2 || n % d != 0
def divsOf(n:Nat):LN:=(List.range (n+1)).filter fun r=>Nat.ble 2 r && n % r==0 && primeB r
def okP(p x:Nat):Bool:=x != 0 && Nat.blt x p && fl (divsOf (p-1)) fun rs=>rsOK (p-1) rs && primS p 1 [0] (p-1) rs x
def chkP:List (Nat × Nat)->Bool:=fun t=>t.all fun e=>okP e.1 e.2
theorem okP_spec{p x:Nat}(b:p<=256)(h:okP p x=true):genM (mulM p 1 [0]) p≠[]:=by unfold okP at h;rw[fl_eq,primS_eq] at h;simp only[Bool.and_eq_true,bne_iff_ne,ne_eq,Nat.blt_eq] at h;have H:=qaV (p:=p) (m:=1) U0 U0 [0];rw[Nat.pow_one] at H;exact genM_some H U0 h.1.2 (prim_of H h.2.1 b h.2.2)
theorem ok_2_2:chkV 2 2 [3] 0 [(1,0),(1,1),(1,0),(0,2)]=true:=dk
theorem ok_2_3:chkV 2 3 [7] 0 [(1,0),(1,1),(1,0),(0,2),(1,0),(0,2),(1,0),(1,1)]=true:=dk
theorem ok_2_4:chkV 2 4 [3,5] 0 [(1,0),(1,1),(1,0),(0,2),(1,0),(2,3),(1,0),(1,1),(1,0),(0,2),(1,0),(1,1),(1,0),(1,1),(1,0),(0,3)]=true:=dk
theorem ok_2_5:chkV 2 5 [31] 0 [(1,0),(1,1),(1,0),(2,3),(1,0),(0,2),(1,0),(1,1),(1,0),(0,2),(1,0),(1,1),(1,0),(1,1),(1,0),(0,2),(1,0),(2,3),(1,0),(1,1),(1,0),(1,1),(1,0),(0,2),(1,0),(1,1),(1,0),(0,2),(1,0),(0,2),(1,0),(1,1)]=true:=dk
theorem ok_2_6:chkV 2 6 [3,7] 0 [(1,0),(1,1),(1,0),(0,2),(1,0),(3,3),(1,0),(1,1),(1,0),(0,3),(1,0),(1,1),(1,0),(1,1),(1,0),(2,3),(1,0),(3,5),(1,0),(1,1),(1,0),(1,1),(1,0),(0,3),(1,0),(1,1),(1,0),(0,2),(1,0),(2,3),(1,0),(1,1),(1,0),(0,2),(1,0),(1,1),(1,0),(1,1),(1,0),(0,2),(1,0),(1,1),(1,0),(2,3),(1,0),(0,2),(1,0),(1,1),(1,0),(1,1),(1,0),(0,2),(1,0),(0,3),(1,0),(1,1),(1,0),(2,3),(1,0),(1,1),(1,0),(1,1),(1,0),(3,3)]=true:=dk
theorem ok_2_7:chkV 2 7 [127] 0 [(1,0),(1,1),(1,0),(0,2),(1,0),(2,3),(1,0),(1,1),(1,0),(0,2),(1,0),(1,1),(1,0),(1,1),(1,0),(0,2),(1,0),(0,2),(1,0),(1,1),(1,0),(1,1),(1,0),(2,3),(1,0),(1,1),(1,0),(3,5),(1,0),(0,2),(1,0),(1,1),(1,0),(2,3),(1,0),(1,1),(1,0),(1,1),(1,0),(0,2),(1,0),(1,1),(1,0),(0,2),(1,0),(3,3),(1,0),(1,1),(1,0),(1,1),(1,0),(2,3),(1,0),(3,5),(1,0),(1,1),(1,0),(0,2),(1,0),(1,1),(1,0),(1,1),(1,0),(0,2),(1,0),(0,2),(1,0),(1,1),(1,0),(1,1),(1,0),(3,5),(1,0),(1,1),(1,0),(0,2),(1,0),(2,3),(1,0),(1,1),(1,0),(1,1),(1,0),(0,2),(1,0),(0,2),(1,0),(1,1),(1,0),(3,3),(1,0),(1,1),(1,0),(1,1),(1,0),(2,3),(1,0),(1,1),(1,0),(3,3),(1,0),(0,2),(1,0),(1,1),(1,0),(2,3),(1,0),(1,1),(1,0),(1,1),(1,0),(0,2),(1,0),(0,2),(1,0),(1,1),(1,0),(1,1),(1,0),(0,2),(1,0),(1,1),(1,0),(2,3),(1,0),(0,2),(1,0),(1,1)]=true:=dk
theorem ok_2_8:chkV 2 8 [3,5,17] 0 [(1,0),(1,1),(1,0),(2,3),(1,0),(4,3),(1,0),(1,1),(1,0),(3,3),(1,0),(1,1),(1,0),(1,1),(1,0),(3,5),(1,0),(2,3),(1,0),(1,1),(1,0),(1,1),(1,0),(4,9),(1,0),(1,1),(1,0),(0,3),(1,0),(0,2),(1,0),(1,1),(1,0),(3,5),(1,0),(1,1),(1,0),(1,1),(1,0),(2,3),(1,0),(1,1),(1,0),(0,2),(1,0),(0,2),(1,0),(1,1),(1,0),(1,1),(1,0),(3,3),(1,0),(2,3),(1,0),(1,1),(1,0),(0,3),(1,0),(1,1),(1,0),(1,1),(1,0),(0,3),(1,0),(4,9),(1,0),(1,1),(1,0),(1,1),(1,0),(3,3),(1,0),(1,1),(1,0),(2,3),(1,0),(0,2),(1,0),(1,1),(1,0),(1,1),(1,0),(3,5),(1,0),(4,15),(1,0),(1,1),(1,0),(2,3),(1,0),(1,1),(1,0),(1,1),(1,0),(0,2),(1,0),(1,1),(1,0),(0,2),(1,0),(0,2),(1,0),(1,1),(1,0),(0,2),(1,0),(1,1),(1,0),(1,1),(1,0),(2,3),(1,0),(0,2),(1,0),(1,1),(1,0),(1,1),(1,0),(0,3),(1,0),(1,1),(1,0),(0,9),(1,0),(2,3),(1,0),(1,1),(1,0),(2,3),(1,0),(1,1),(1,0),(1,1),(1,0),(0,2),(1,0),(1,1),(1,0),(0,6),(1,0),(0,2),(1,0),(1,1),(1,0),(1,1),(1,0),(2,3),(1,0),(3,3),(1,0),(1,1),(1,0),(3,5),(1,0),(1,1),(1,0),(1,1),(1,0),(0,3),(1,0),(1,1),(1,0),(0,3),(1,0),(2,3),(1,0),(1,1),(1,0),(0,2),(1,0),(1,1),(1,0),(1,1),(1,0),(3,3),(1,0),(0,6),(1,0),(1,1),(1,0),(1,1),(1,0),(2,3),(1,0),(1,1),(1,0),(4,3),(1,0),(0,7),(1,0),(1,1),(1,0),(1,1),(1,0),(0,2),(1,0),(3,5),(1,0),(1,1),(1,0),(2,3),(1,0),(1,1),(1,0),(1,1),(1,0),(0,2),(1,0),(4,3),(1,0),(1,1),(1,0),(1,1),(1,0),(0,7),(1,0),(1,1),(1,0),(2,3),(1,0),(0,6),(1,0),(1,1),(1,0),(3,3),(1,0),(1,1),(1,0),(1,1),(1,0),(0,2),(1,0),(1,1),(1,0),(3,5),(1,0),(2,3),(1,0),(1,1),(1,0),(1,1),(1,0),(0,6),(1,0),(0,2),(1,0),(1,1),(1,0),(0,3),(1,0),(1,1),(1,0),(1,1),(1,0),(2,3)]=true:=dk
theorem ok_3_2:chkV 3 2 [2] 0 [(1,0),(0,4),(1,1),(1,0),(1,2),(0,3),(1,0),(1,1),(0,3)]=true:=dk
theorem ok_3_3:chkV 3 3 [2,13] 0 [(1,0),(1,1),(1,2),(1,0),(1,2),(1,1),(1,0),(0,3),(0,6),(1,0),(1,2),(0,5),(1,0),(1,1),(0,4),(1,0),(0,3),(1,1),(1,0),(0,3),(1,1),(1,0),(0,3),(1,2),(1,0),(1,1),(0,4)]=true:=dk
theorem ok_3_4:chkV 3 4 [2,5] 0 [(1,0),(2,5),(1,1),(1,0),(1,2),(0,3),(1,0),(1,1),(0,3),(1,0),(1,1),(0,12),(1,0),(0,4),(1,1),(1,0),(0,5),(1,2),(1,0),(2,1),(0,4),(1,0),(1,1),(1,2),(1,0),(1,2),(1,1),(1,0),(1,2),(0,3),(1,0),(1,1),(2,1),(1,0),(0,4),(1,1),(1,0),(0,10),(1,1),(1,0),(0,5),(1,2),(1,0),(1,1),(0,3),(1,0),(1,1),(1,2),(1,0),(1,2),(1,1),(1,0),(2,8),(0,3),(1,0),(1,1),(0,3),(1,0),(0,4),(1,1),(1,0),(1,2),(2,1),(1,0),(0,10),(1,2),(1,0),(1,1),(0,3),(1,0),(0,4),(1,1),(1,0),(1,2),(1,1),(1,0),(2,5),(0,3),(1,0),(1,1),(1,2)]=true:=dk
theorem ok_3_5:chkV 3 5 [2,11] 0 [(1,0),(1,1),(1,2),(1,0),(1,2),(1,1),(1,0),(0,3),(0,6),(1,0),(1,2),(2,8),(1,0),(1,1),(0,4),(1,0),(2,1),(1,1),(1,0),(2,5),(1,1),(1,0),(0,3),(1,2),(1,0),(1,1),(2,1),(1,0),(1,2),(1,1),(1,0),(0,3),(0,6),(1,0),(1,1),(1,2),(1,0),(1,1),(0,4),(1,0),(2,8),(1,1),(1,0),(1,2),(0,6),(1,0),(0,3),(1,2),(1,0),(1,1),(2,5),(1,0),(0,3),(1,1),(1,0),(2,8),(2,5),(1,0),(1,1),(1,2),(1,0),(1,2),(1,1),(1,0),(0,3),(1,1),(1,0),(1,2),(0,5),(1,0),(1,1),(0,4),(1,0),(1,1),(0,4),(1,0),(0,3),(1,1),(1,0),(0,4),(1,2),(1,0),(1,2),(0,5),(1,0),(1,1),(0,4),(1,0),(0,3),(1,1),(1,0),(0,3),(1,1),(1,0),(0,3),(1,2),(1,0),(1,1),(0,4),(1,0),(1,1),(1,2),(1,0),(1,2),(1,1),(1,0),(2,1),(2,8),(1,0),(1,1),(2,1),(1,0),(0,3),(1,1),(1,0),(1,2),(2,5),(1,0),(2,5),(1,2),(1,0),(1,1),(2,8),(1,0),(0,3),(1,1),(1,0),(1,2),(1,1),(1,0),(0,3),(0,6),(1,0),(1,1),(1,2),(1,0),(0,3),(1,1),(1,0),(1,2),(2,1),(1,0),(1,1),(0,6),(1,0),(1,1),(0,4),(1,0),(0,3),(1,1),(1,0),(2,8),(1,2),(1,0),(0,3),(0,6),(1,0),(1,1),(1,2),(1,0),(1,2),(1,1),(1,0),(0,3),(1,1),(1,0),(0,3),(1,2),(1,0),(1,1),(0,5),(1,0),(1,1),(1,2),(1,0),(1,2),(1,1),(1,0),(2,5),(2,1),(1,0),(1,2),(0,5),(1,0),(1,1),(0,4),(1,0),(0,3),(1,1),(1,0),(2,1),(1,2),(1,0),(1,1),(0,4),(1,0),(2,8),(1,1),(1,0),(1,2),(1,1),(1,0),(0,3),(0,6),(1,0),(1,1),(1,2),(1,0),(1,1),(2,8),(1,0),(2,5),(1,1),(1,0),(1,2),(0,5),(1,0),(1,1),(0,4),(1,0),(2,1),(1,1),(1,0),(0,3),(1,2),(1,0),(0,3),(0,6),(1,0),(1,1),(1,2),(1,0),(1,2),(1,1),(1,0),(0,7),(1,1),(1,0),(1,2),(0,5),(1,0),(1,1),(2,5)]=true:=dk
theorem ok_5_2:chkV 5 2 [2,3] 0 [(1,0),(1,2),(0,6),(0,7),(1,1),(1,0),(0,7),(0,5),(1,2),(1,3),(1,0),(1,1),(1,3),(0,5),(0,8),(1,0),(1,4),(1,1),(0,5),(0,6),(1,0),(0,6),(0,5),(1,1),(1,2)]=true:=dk
theorem ok_5_3:chkV 5 3 [2,31] 0 [(1,0),(1,1),(1,3),(1,2),(1,4),(1,0),(0,9),(1,1),(1,4),(0,6),(1,0),(0,6),(1,2),(1,1),(0,7),(1,0),(1,3),(0,5),(0,5),(1,1),(1,0),(1,2),(0,5),(0,5),(1,3),(1,0),(0,7),(0,5),(1,3),(1,2),(1,0),(1,1),(1,4),(0,5),(0,6),(1,0),(1,4),(1,1),(1,2),(1,3),(1,0),(0,6),(1,3),(1,1),(0,8),(1,0),(0,6),(1,2),(0,5),(1,1),(1,0),(0,6),(1,4),(0,5),(1,1),(1,0),(1,4),(1,2),(0,5),(0,7),(1,0),(1,1),(0,5),(0,5),(1,2),(1,0),(1,2),(1,1),(1,3),(1,4),(1,0),(1,3),(0,5),(1,1),(0,8),(1,0),(1,2),(0,5),(1,1),(0,7),(1,0),(0,6),(0,5),(1,2),(1,1),(1,0),(1,3),(0,5),(0,5),(1,4),(1,0),(1,1),(1,2),(1,4),(1,3),(1,0),(0,7),(1,1),(0,5),(1,2),(1,0),(1,3),(1,1),(0,5),(0,6),(1,0),(0,6),(0,5),(1,1),(1,2),(1,0),(1,2),(1,3),(1,4),(1,1),(1,0),(0,7),(1,4),(1,2),(0,9),(1,0),(1,1),(0,5),(1,3),(0,6)]=true:=dk
theorem ok_7_2:chkV 7 2 [2,3] 0 [(1,0),(0,9),(0,8),(1,2),(0,8),(1,3),(1,1),(1,0),(1,3),(1,4),(0,7),(0,10),(1,2),(0,10),(1,0),(1,1),(0,10),(0,7),(1,3),(0,7),(1,4),(1,0),(0,11),(1,1),(1,4),(1,5),(0,7),(0,11),(1,0),(0,8),(1,5),(1,1),(1,2),(0,7),(0,8),(1,0),(1,6),(0,8),(0,7),(1,1),(0,7),(1,2),(1,0),(1,2),(1,3),(0,7),(0,9),(1,1),(0,9)]=true:=dk
theorem ok_11_2:chkV 11 2 [2,3,5] 0 [(1,0),(0,15),(1,3),(0,13),(0,14),(0,12),(1,4),(1,2),(1,5),(0,13),(1,1),(1,0),(0,15),(1,5),(1,6),(0,13),(1,3),(0,13),(0,11),(0,11),(1,2),(1,4),(1,0),(1,1),(0,16),(1,4),(0,14),(0,15),(0,11),(1,5),(1,3),(1,6),(0,14),(1,0),(1,5),(1,1),(0,16),(1,6),(1,7),(0,11),(1,4),(0,11),(0,12),(0,12),(1,0),(1,7),(0,11),(1,1),(1,2),(0,17),(1,5),(0,11),(0,16),(0,12),(1,6),(1,0),(0,12),(0,11),(0,13),(1,1),(1,6),(1,2),(0,17),(1,7),(1,8),(0,12),(1,0),(0,12),(0,11),(0,13),(1,7),(1,1),(1,8),(0,12),(1,2),(1,3),(0,18),(1,0),(1,3),(0,11),(1,8),(1,9),(0,13),(1,1),(0,11),(0,12),(0,14),(1,2),(1,0),(1,2),(1,9),(0,13),(1,3),(1,4),(0,11),(1,1),(0,11),(0,12),(0,14),(1,0),(1,10),(0,14),(1,2),(0,12),(0,13),(0,11),(1,3),(1,1),(1,4),(0,12),(1,0),(0,14),(1,4),(1,5),(0,12),(1,2),(0,12),(0,11),(0,11),(1,1),(1,3)]=true:=dk
theorem ok_13_2:chkV 13 2 [2,3,7] 0 [(1,0),(1,5),(0,15),(1,6),(1,3),(0,14),(0,14),(0,15),(0,17),(1,2),(1,4),(0,15),(1,1),(1,0),(1,4),(0,13),(0,17),(0,15),(0,15),(1,5),(1,3),(0,17),(1,6),(1,7),(1,2),(0,17),(1,0),(1,1),(1,6),(0,16),(1,7),(1,4),(0,13),(0,13),(0,16),(0,18),(1,3),(1,5),(0,16),(1,0),(0,18),(1,1),(1,5),(0,14),(0,18),(0,13),(0,13),(1,6),(1,4),(0,18),(1,7),(1,8),(1,0),(1,6),(0,13),(1,1),(1,2),(1,7),(0,13),(1,8),(1,5),(0,14),(0,14),(0,13),(0,19),(1,0),(0,19),(1,8),(1,9),(1,1),(0,19),(1,2),(1,6),(0,15),(0,19),(0,14),(0,13),(1,7),(1,0),(0,15),(0,13),(0,14),(0,20),(1,1),(1,7),(0,13),(1,2),(1,3),(1,8),(0,13),(1,9),(1,0),(0,16),(0,13),(0,15),(0,14),(1,8),(1,1),(0,13),(1,9),(1,10),(1,2),(0,13),(1,3),(1,0),(0,14),(1,3),(1,4),(1,9),(0,14),(1,10),(1,1),(0,16),(0,14),(0,15),(0,13),(1,2),(1,0),(1,2),(0,13),(1,10),(1,11),(1,3),(0,13),(1,4),(1,1),(0,17),(0,14),(0,13),(0,15),(1,0),(0,15),(1,11),(1,2),(0,17),(0,15),(0,13),(0,13),(1,3),(1,1),(0,15),(1,4),(1,5),(1,0),(1,12),(1,4),(0,14),(1,5),(1,2),(0,13),(0,13),(0,14),(0,16),(1,1),(1,3),(0,14),(1,0),(1,3),(0,13),(0,16),(0,14),(0,14),(1,4),(1,2),(0,16),(1,5),(1,6),(1,1),(0,16)]=true:=dk
theorem ok_primes:chkP [(2,1),(3,2),(5,2),(7,3),(11,2),(13,2),(17,3),(19,2),(23,5),(29,2),(31,3),(37,2),(41,6),(43,3),(47,5),(53,2),(59,2),(61,2),(67,2),(71,7),(73,5),(79,3),(83,2),(89,3),(97,5),(101,2),(103,5),(107,2),(109,6),(113,3),(127,3),(131,2),(137,3),(139,2),(149,2),(151,6),(157,5),(163,2),(167,5),(173,2),(179,2),(181,2),(191,19),(193,5),(197,2),(199,3),(211,2),(223,3),(227,2),(229,6),(233,3),(239,7),(241,7),(251,6)]=true:=dk
theorem primes_are:((List.range 257).all fun p=>!(Nat.ble 2 p && primeB p) || ([2,3,5,7,11,13,17,19,23,29,31,37,41,43,47,53,59,61,67,71,73,79,83,89,97,101,103,107,109,113,127,131,137,139,149,151,157,163,167,173,179,181,191,193,197,199,211,223,227,229,233,239,241,251]:LN).elem p)=true:=dk
def addD(p:Nat):Nat->Nat->Nat->Nat
 |0,_,_=>0
 |k+1,x,y=>(x % p+y % p) % p+p*addD p k (x / p) (y / p)
def negD(p:Nat):Nat->Nat->Nat
 |0,_=>0
 |k+1,x=>(p-x % p) % p+p*negD p k (x / p)
theorem addD_zero(p:Nat):∀k,addD p k 0 0=0
 |0=>rfl
 |k+1=>by simp[addD,addD_zero p k]
theorem negD_zero(p:Nat):∀k,negD p k 0=0
 |0=>rfl
 |k+1=>by simp[negD,negD_zero p k]
theorem addD_val(p:Nat):∀k x y,addD p k x y=val p (List.zipWith (fun a b=>(a+b) % p) (digs p k x) (digs p k y))
 |0,_,_=>rfl
 |k+1,x,y=>by simp[addD,digs,val,addD_val p k]
theorem negD_val(p:Nat):∀k x,negD p k x=val p ((digs p k x).map fun a=>(p-a) % p)
 |0,_=>rfl
 |k+1,x=>by simp[negD,digs,val,negD_val p k]
theorem lt_pow_succ{p k d r:Nat}(hd:d<p)(b:r<p^k):d+p*r<p^(k+1):=by rw[Nat.pow_succ,Nat.mul_comm (p^k) p];have:p*(r+1)<=p*p^k:=Nat.mul_le_mul_left _ b;rw[Nat.mul_add,Nat.mul_one] at this;omega
theorem qdR{p:Nat}(b:0<p):∀k x y,addD p k x y<p^k
 |0,_,_=>by simp[addD]
 |k+1,x,y=>lt_pow_succ (Nat.mod_lt _ b) (qdR b k _ _)
theorem qdP{p:Nat}(b:0<p):∀k x,negD p k x<p^k
 |0,_=>by simp[negD]
 |k+1,x=>lt_pow_succ (Nat.mod_lt _ b) (qdP b k _)
theorem xor_mod2(x y:Nat):(x ^^^ y) % 2=(x+y) % 2:=by have h:=@Nat.xor_mod_two_pow x y 1;simp only[Nat.pow_one] at h;rw[h];rcases Nat.mod_two_eq_zero_or_one x with hx|hx<;>rcases Nat.mod_two_eq_zero_or_one y with hy|hy<;>rw[hx,hy]<;>simp<;>omega
theorem xor_addD:∀ k x y,x<2 ^ k->y<2 ^ k->x ^^^ y=addD 2 k x y
 |0,x,y,hx,hy=>by
   simp at hx hy
   subst hx hy
   rfl
 |k + 1,x,y,hx,hy=>by
   have ih:=xor_addD k (x / 2) (y / 2) (by rw[Nat.pow_succ] at hx;omega) (by rw[Nat.pow_succ] at hy;omega)
   have b:(x ^^^ y) / 2=x / 2 ^^^ y / 2:=Nat.xor_div_two
   have c:(x ^^^ y) % 2=(x+y) % 2:=xor_mod2 x y
   simp only[addD]
   omega
structure Ops where
 add:Nat->Nat->Nat
 mul:Nat->Nat->Nat
 neg:Nat->Nat
 inv:Nat->Nat
def at2(rows:LL)(i c:Nat):Nat:=(rows.getD i []).getD c 0
def addRow(O:Ops)(v:LN)(a:Nat)(u:LN):LN:=List.zipWith (fun x y=>if y=0 then x else O.add x (O.mul a y)) v u
def scaleRow(O:Ops)(a:Nat)(v:LN):LN:=v.map (O.mul a)
def findRow(rows:LL)(c:Nat):Nat->Nat->Nat
 |0,k=>k
 |g+1,k=>if at2 rows k c=0 then findRow rows c g (k+1) else k
def swapRows(rows:LL)(i j:Nat):LL:=(rows.set i (rows.getD j [])).set j (rows.getD i [])
def normRow(O:Ops)(rows:LL)(i c:Nat):LL:=if at2 rows i c=1 then rows else rows.set i (scaleRow O (O.inv (at2 rows i c)) (rows.getD i []))
def clearGo(O:Ops)(c t:Nat)(rows:LL):Nat->LL
 |0=>rows
 |i+1=>if i≠t/\at2 (clearGo O c t rows i) i c≠0 then(clearGo O c t rows i).set i (addRow O ((clearGo O c t rows i).getD i []) (O.neg (at2 (clearGo O c t rows i) i c)) ((clearGo O c t rows i).getD t [])) else clearGo O c t rows i
structure ElS where
 rows:LL
 piv:LN
def elStep(O:Ops)(c:Nat)(s:ElS):ElS:=
 if s.piv.length<s.rows.length then
  if findRow s.rows c (s.rows.length-s.piv.length) s.piv.length=s.rows.length then s
  else⟨clearGo O c s.piv.length (normRow O (swapRows s.rows s.piv.length (findRow s.rows c (s.rows.length-s.piv.length) s.piv.length)) s.piv.length c) s.rows.length,s.piv++[c]⟩
 else s
def elGo(O:Ops)(rows:LL):Nat->ElS
 |0=>⟨rows,[]⟩
 |c+1=>elStep O c (elGo O rows c)
def canonM(O:Ops)(rows:LL)(cols:Nat):LL:=(elGo O rows cols).rows.take (elGo O rows cols).piv.length
def Grid(q n cols:Nat)(rows:LL):Prop:=rows.length=n/\∀r∈rows,r.length=cols/\∀x∈r,x<q
structure OpsEq (q:Nat) (O O':Ops):Prop where
 add:∀x y,x<q->y<q->O.add x y=O'.add x y/\O.add x y<q
 mul:∀x y,x<q->y<q->O.mul x y=O'.mul x y/\O.mul x y<q
 neg:∀x,x<q->O.neg x=O'.neg x/\O.neg x<q
 inv:∀x,x<q->x≠0->O.inv x=O'.inv x/\O.inv x<q
section
variable {q n cols:Nat} {O O':Ops}
theorem Grid.row{rows:LL}(h:Grid q n cols rows){i:Nat}(b:i<n):(rows.getD i []).length=cols/\∀x∈rows.getD i [],x<q:=by
 have:rows.getD i []=rows[i]'(by rw[h.1];exact b):=by simp[List.getD,h.1,b]
 rw[this];exact h.2 _ (List.getElem_mem _)
theorem Grid.at_{rows:LL}(h:Grid q n cols rows){i c:Nat}(f:i<n)(g:c<cols):at2 rows i c<q:=by
 obtain⟨d,b⟩:=h.row f;unfold at2;have:(rows.getD i []).getD c 0=(rows.getD i [])[c]'U0:=by simp[List.getD,show c<(rows[i]?.getD []).length from by simpa[List.getD] using(by omega:c<(rows.getD i []).length)]
 rw[this];exact b _ (List.getElem_mem _)
theorem Grid.set{rows:LL}(h:Grid q n cols rows)(i:Nat){r:LN}(b:r.length=cols/\∀x∈r,x<q):Grid q n cols (rows.set i r):=by
 refine⟨by simp[h.1],fun s hs=>?_⟩;rcases List.mem_or_eq_of_mem_set hs with h'|rfl
 . exact h.2 _ h'
 . exact b
theorem qdB(E:OpsEq q O O'){v u:LN}{a:Nat}(r:a<q)(p:∀ x∈v,x<q)(o:∀ x∈u,x<q):addRow O v a u=addRow O' v a u/\∀ x∈addRow O v a u,x<q:=by
 induction v generalizing u with
 |nil=>simp[addRow]
 | cons x v ih =>
  cases u with
  |nil=>simp[addRow]
  | cons y u =>
   have f:=p x (List.mem_cons_self ..);have h:=o y (List.mem_cons_self ..);obtain⟨d,g⟩:=ih (fun z b=>p z (List.mem_cons_of_mem _ b)) (fun z b=>o z (List.mem_cons_of_mem _ b));obtain⟨i,j⟩:=E.mul a y r h;obtain⟨k,l⟩:=E.add x (O.mul a y) f j;unfold addRow at d g ⊢;simp only[List.zipWith_cons_cons,d];refine⟨?_,?_⟩
   . by_cases c : y = 0
     . simp[c]
     . simp only[if_neg c];rw[k,i]
   . intro z b;rcases List.mem_cons.1 b with rfl|b
     . by_cases c : y = 0
       . simp only[if_pos c];exact f
       . simp only[if_neg c];exact l
     . rw[<- d] at b;exact g z b
theorem qeG(E:OpsEq q O O'){v:LN}{a:Nat}(c:a<q)(d:∀x∈v,x<q):scaleRow O a v=scaleRow O' a v/\∀x∈scaleRow O a v,x<q:=by unfold scaleRow;refine⟨List.map_congr_left fun x b=>(E.mul a x c (d x b)).1,fun z hz=>?_⟩;obtain⟨x,b,rfl⟩:=List.mem_map.1 hz;exact(E.mul a x c (d x b)).2
theorem qdF(rows:LL)(c:Nat):∀ g k,k<=findRow rows c g k/\findRow rows c g k<=k+g
 |0,k=>by simp[findRow]
 |g + 1,k=>by
   unfold findRow
   split
   . have:=qdF rows c g (k+1);omega
   . omega
theorem qcF(rows:LL)(c:Nat):∀ g k,findRow rows c g k<k+g->at2 rows (findRow rows c g k) c≠0
 |0,k=>by simp[findRow]
 |g + 1,k=>by
   unfold findRow
   split
   . intro h;exact qcF rows c g (k+1) U0
   . intro _;assumption
theorem qdC{rows:LL}(h:Grid q n cols rows){i j:Nat}(b:i<n)(c:j<n):Grid q n cols (swapRows rows i j):=(h.set i (h.row c)).set j (h.row b)
theorem qfT{rows:LL}{i j:Nat}(b:i<rows.length)(c:j<rows.length):(swapRows rows i j).getD i []=rows.getD j []:=by
 unfold swapRows;by_cases h:i=j
 . subst h;simp[List.getD,b]
 . simp only[List.getD];rw[List.getElem?_set_ne U0,List.getElem?_set_self (by simpa using b)];rfl
theorem qfW(E:OpsEq q O O'){rows:LL}(h:Grid q n cols rows){i c:Nat}(l:i<n)(p:c<cols)(o:at2 rows i c≠0):normRow O rows i c=normRow O' rows i c/\Grid q n cols (normRow O rows i c):=by
 obtain⟨j,k⟩:=E.inv _ (h.at_ l p) o;obtain⟨d,f⟩:=h.row l;obtain⟨b,g⟩:=qeG E k f;unfold normRow;rw[<- j,b];refine⟨rfl,?_⟩;split
 . exact h
 . rw[<- b];exact h.set i ⟨by unfold scaleRow;rw[List.length_map];exact d,g⟩
theorem qdJ(E:OpsEq q O O'){rows:LL}(h:Grid q n cols rows){c t:Nat}(p:c<cols)(r:t<n):∀ i,i<=n->clearGo O c t rows i=clearGo O' c t rows i/\Grid q n cols (clearGo O c t rows i)
 |0,_=>⟨rfl,h⟩
 | i + 1,hi => by
   obtain⟨e,g⟩:=qdJ E h p r i U0
   obtain⟨m,o⟩:=E.neg _ (g.at_ (i:=i) U0 p)
   obtain⟨d,f⟩:=g.row (i:=i) U0
   obtain⟨k,l⟩:=g.row r
   obtain⟨b,j⟩:=qdB E o f l
   unfold clearGo
   rw[<- e,<- m,b]
   refine⟨rfl,?_⟩
   split
   . rw[<- b]
     exact g.set i ⟨by unfold addRow;rw[List.length_zipWith,d,k,Nat.min_self],j⟩
   . exact g
theorem elStep_eq(E:OpsEq q O O'){c:Nat}(v:c<cols){s:ElS}(h:Grid q n cols s.rows):elStep O c s=elStep O' c s/\Grid q n cols (elStep O c s).rows:=by
 unfold elStep;by_cases f:s.piv.length<s.rows.length
 . simp only[if_pos f];have r:=qdF s.rows c (s.rows.length-s.piv.length) s.piv.length;by_cases g:findRow s.rows c (s.rows.length-s.piv.length) s.piv.length=s.rows.length
   . simp only[if_pos g];exact⟨trivial,h⟩
   . simp only[if_neg g];have b:=qcF s.rows c (s.rows.length-s.piv.length) s.piv.length U0;generalize findRow s.rows c (s.rows.length-s.piv.length) s.piv.length=k at *;have u:k<s.rows.length:=U0;have d:=h.1;have m:=qdC h (i:=s.piv.length) (j:=k) U0 U0;(have l:at2 (swapRows s.rows s.piv.length k) s.piv.length c≠0:=by unfold at2 at b ⊢;rw[qfT U0 U0];exact b);obtain⟨o,p⟩:=qfW E m (i:=s.piv.length) U0 v l;obtain⟨c1,c2⟩:=qdJ E p (t:=s.piv.length) v U0 n zn;rw[d];exact⟨by rw[c1,o],c2⟩
 . simp only[if_neg f];exact⟨trivial,h⟩
theorem qdT(E:OpsEq q O O'){rows:LL}(h:Grid q n cols rows):∀ c,c<=cols->elGo O rows c=elGo O' rows c/\Grid q n cols (elGo O rows c).rows
 |0,_=>⟨rfl,h⟩
 |c + 1,hc=>by
   obtain⟨e,g⟩:=qdT E h c U0
   have:=elStep_eq E (c:=c) U0 g
   unfold elGo
   rw[<- e]
   exact this
theorem canon_eq(E:OpsEq q O O'){rows:LL}(h:Grid q n cols rows):canonM O rows cols=canonM O' rows cols:=by unfold canonM;rw[(qdT E h cols zn).1]
end
end Go.Proofs.YtflejelbdlelpaaGreat.Pln
