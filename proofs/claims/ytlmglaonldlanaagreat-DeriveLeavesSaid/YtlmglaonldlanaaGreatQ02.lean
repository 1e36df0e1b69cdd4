/-
 Plain: the ring of vectors modulo a monic polynomial; the two products of residues are one.
-/
namespace Go.Proofs.YtlmglaonldlanaaGreat.Pln
abbrev Vec:=Nat->Int
def sh (m:Nat) (md:Vec) (v:Vec):Vec:=fun j=>if j<m then (if j=0 then 0 else v (j-1))-v (m-1)*md j else 0
def shN (m:Nat) (md:Vec):Nat->Vec->Vec
 | 0,v=>v
 | k+1,v=>sh m md (shN m md k v)
def pol (m:Nat) (md:Vec) (b:Vec):Nat->Vec->Vec
 | 0,_=>fun _=>0
 | k+1,a=>fun j=>b k*shN m md k a j+pol m md b k a j
def un:Vec:=fun j=>if j=0 then 1 else 0
def Supp (m:Nat) (a:Vec):Prop:=∀ j,m<=j->a j=0
section
variable (m:Nat) (md:Vec)
theorem sh_lin (a:Int) (u v:Vec):sh m md (fun j=>a*u j+v j)=fun j=>a*sh m md u j+sh m md v j:=by
 funext j
 unfold sh
 by_cases h:j<m <;> by_cases h0:j=0 <;> simp only [h,h0,if_true,if_false] <;> grind
theorem sh_zero:sh m md (fun _=>0)=fun _=>0:=by
 funext j
 unfold sh
 by_cases h:j<m <;> by_cases h0:j=0 <;> simp [h,h0]
theorem qfQ (a:Int) (u v:Vec):∀ k,shN m md k (fun j=>a*u j+v j)=fun j=>a*shN m md k u j+shN m md k v j
 | 0=>rfl
 | k+1=>by show sh m md (shN m md k _)=_;rw [qfQ a u v k,sh_lin];rfl
theorem qeZ:∀ k,shN m md k (fun _=>0)=fun _=>0
 | 0=>rfl
 | k+1=>by show sh m md (shN m md k _)=_;rw [qeZ k,sh_zero]
theorem shN_succ (v:Vec):∀ k,shN m md (k+1) v=shN m md k (sh m md v)
 | 0=>rfl
 | k+1=>by show sh m md (shN m md (k+1) v)=_;rw [shN_succ v k];rfl
theorem shN_add (v:Vec) (i:Nat):∀ k,shN m md (k+i) v=shN m md k (shN m md i v)
 | 0=>by rw [Nat.zero_add];rfl
 | k+1=>by rw [Nat.add_right_comm];show sh m md (shN m md (k+i) v)=_;rw [shN_add v i k];rfl
theorem pol_lin (b:Vec) (a:Int) (u v:Vec):∀ k,pol m md b k (fun j=>a*u j+v j)=fun j=>a*pol m md b k u j+pol m md b k v j
 | 0=>by funext j;simp [pol]
 | k + 1 => by
   funext j
   simp only [pol,pol_lin b a u v k,qfQ m md a u v k]
   grind
theorem pol_zero (b:Vec):∀ k,pol m md b k (fun _=>0)=fun _=>0
 | 0=>rfl
 | k+1=>by funext j;simp [pol,pol_zero b k,qeZ m md k]
theorem qeW (a:Int) (b c:Vec) (u:Vec):∀ k,pol m md (fun j=>a*b j+c j) k u=fun j=>a*pol m md b k u j+pol m md c k u j
 | 0=>by funext j;simp [pol]
 | k+1=>by funext j;simp only [pol,qeW a b c u k];grind
theorem pol_sh (b:Vec) (a:Vec):∀ k,pol m md b k (sh m md a)=sh m md (pol m md b k a)
 | 0=>by funext j;simp [pol,sh_zero]
 | k + 1 => by
   show (fun j=>b k*shN m md k (sh m md a) j+pol m md b k (sh m md a) j)=sh m md (fun j=>b k*shN m md k a j+pol m md b k a j)
   rw [sh_lin,pol_sh b a k,<- shN_succ]
   rfl
theorem pol_shN (b:Vec) (a:Vec) (k:Nat):∀ i,pol m md b k (shN m md i a)=shN m md i (pol m md b k a)
 | 0=>rfl
 | i+1=>by show pol m md b k (sh m md (shN m md i a))=sh m md (shN m md i (pol m md b k a));rw [pol_sh,pol_shN b a k i]
theorem pol_comm (b c a:Vec) (l:Nat):∀ k,pol m md b k (pol m md c l a)=pol m md c l (pol m md b k a)
 | 0=>by show (fun _=>0)=pol m md c l (fun _=>0);rw [pol_zero]
 | k + 1 => by
   show (fun j=>b k*shN m md k (pol m md c l a) j+pol m md b k (pol m md c l a) j)=pol m md c l (fun j=>b k*shN m md k a j+pol m md b k a j)
   rw [pol_lin,pol_comm b c a l k,pol_shN]
theorem pol_horner (b a:Vec):∀ k,pol m md b (k+1) a=fun j=>b 0*a j+sh m md (pol m md (fun i=>b (i+1)) k a) j
 | 0=>by funext j;simp [pol,sh_zero,shN]
 | k + 1 => by
   have h:=pol_horner b a k
   funext j
   show b (k+1)*shN m md (k+1) a j+pol m md b (k+1) a j=_
   rw [h]
   show _=b 0*a j+sh m md (fun j=>b (k+1)*shN m md k a j+pol m md (fun i=>b (i+1)) k a j) j
   rw [sh_lin]
   show b (k+1)*sh m md (shN m md k a) j+_=_
   grind
theorem sh_supp (a:Vec):Supp m (sh m md a):=fun j hj=>by unfold sh;rw [if_neg (by omega)]
theorem shN_supp {a:Vec} (h:Supp m a):∀ k,Supp m (shN m md k a)
 | 0=>h
 | _+1=>sh_supp m md _
theorem pol_supp {b a:Vec} (h:Supp m a):∀ k,Supp m (pol m md b k a)
 | 0=>fun _ _=>rfl
 | k+1=>fun j hj=>by simp [pol,pol_supp h k j hj,shN_supp m md h k j hj]
theorem shN_un:∀ i,i<m->shN m md i un=fun j=>if j=i then 1 else 0
 | 0,_=>rfl
 | i + 1,h => by
   show sh m md (shN m md i un)=_
   rw [shN_un i (by omega)]
   funext j
   unfold sh
   by_cases hj:j<m
   . have hmi : ¬ (m - 1 = i) := by omega
     simp only [if_pos hj,if_neg hmi]
     by_cases h0:j=0
     . subst h0;simp
     . have h2 : (j - 1 = i) ↔ (j = i + 1) := by omega
       simp [h0,h2]
   . rw [if_neg hj,if_neg (by omega)]
theorem shN_un_top (hm:0<m):shN m md m un=fun j=>if j<m then-md j else 0:=by
 obtain ⟨n,rfl⟩:∃ n,m=n+1:=⟨m-1,by omega⟩
 show sh (n+1) md (shN (n+1) md n un)=_
 rw [shN_un (n+1) md n (by omega)]
 funext j
 unfold sh
 by_cases hj:j<n+1
 . rw [if_pos hj,if_pos hj]
   by_cases h0:j=0
   . subst h0;simp
   . have h2 : ¬ (j - 1 = n) := by omega
     simp [h0,h2]
 . rw [if_neg hj,if_neg hj]
theorem pol_un (b:Vec):∀ k,k<=m->pol m md b k un=fun j=>if j<k then b j else 0
 | 0,_=>by funext j;simp [pol]
 | k + 1,h => by
   funext j
   simp only [pol,shN_un m md k (by omega),pol_un b k (by omega)]
   by_cases h1:j=k
   . subst h1;simp
   . rw [if_neg h1]
     by_cases h2:j<k
     . rw [if_pos h2,if_pos (by omega)];simp
     . rw [if_neg h2,if_neg (by omega)];simp
theorem pol_id {b:Vec} (h:Supp m b):pol m md b m un=b:=by
 rw [pol_un m md b m (Nat.le_refl _)]
 funext j
 by_cases hj:j<m
 . rw [if_pos hj]
 . rw [if_neg hj,h j (by omega)]
def mz (a b:Vec):Vec:=pol m md b m a
theorem mz_comm {a b:Vec} (ha:Supp m a) (hb:Supp m b):mz m md a b=mz m md b a:=by
 show pol m md b m a=pol m md a m b
 conv=>lhs;rw [<- pol_id m md ha]
 rw [pol_comm,pol_id m md hb]
theorem mz_assoc {a b c:Vec} (ha:Supp m a) (hb:Supp m b):mz m md (mz m md a b) c=mz m md a (mz m md b c):=by
 have hbc:Supp m (mz m md b c):=pol_supp m md hb m
 rw [mz_comm m md ha hbc]
 show pol m md c m (pol m md b m a)=pol m md a m (pol m md c m b)
 rw [pol_comm m md a c b m m]
 exact congrArg (pol m md c m) (mz_comm m md ha hb)
theorem mz_un {a:Vec}:mz m md un a=fun j=>if j<m then a j else 0:=pol_un m md a m (Nat.le_refl _)
end
def Cg (p:Int) (u v:Vec):Prop:=∃ t:Vec,u=fun j=>p*t j+v j
theorem Cg.refl (p:Int) (u:Vec):Cg p u u:=⟨fun _=>0,by funext j;simp⟩
theorem Cg.of_eq {p:Int} {u v:Vec} (h:u=v):Cg p u v:=h ▸ Cg.refl p u
theorem Cg.symm {p:Int} {u v:Vec} (h:Cg p u v):Cg p v u:=by
 obtain ⟨t,rfl⟩:=h
 exact ⟨fun j=>- t j,by funext j;grind⟩
theorem Cg.trans {p:Int} {u v w:Vec} (h:Cg p u v) (h':Cg p v w):Cg p u w:=by
 obtain ⟨t,rfl⟩:=h
 obtain ⟨s,rfl⟩:=h'
 exact ⟨fun j=>t j+s j,by funext j;grind⟩
theorem Cg.lin {p:Int} {u v u' v':Vec} (a:Int) (h:Cg p u u') (h':Cg p v v'):Cg p (fun j=>a*u j+v j) (fun j=>a*u' j+v' j):=by
 obtain ⟨t,rfl⟩:=h
 obtain ⟨s,rfl⟩:=h'
 exact ⟨fun j=>a*t j+s j,by funext j;grind⟩
theorem Cg.at_ {p:Int} {u v:Vec} (h:Cg p u v) (j:Nat):u j % p=v j % p:=by
 obtain ⟨t,rfl⟩:=h
 show (p*t j+v j) % p=_
 rw [Int.add_comm,Int.add_mul_emod_self_left]
theorem Cg.mk {p:Int} {u v:Vec} (h:∀ j,u j % p=v j % p):Cg p u v:=by
 refine ⟨fun j=>u j / p-v j / p,?_⟩
 funext j
 have h1:=Int.mul_ediv_add_emod (u j) p
 have h2:=Int.mul_ediv_add_emod (v j) p
 have:=h j
 grind
theorem Cg.sh {p:Int} {u v:Vec} (m:Nat) (md:Vec) (h:Cg p u v):Cg p (sh m md u) (sh m md v):=by
 obtain ⟨t,rfl⟩:=h
 exact ⟨Pln.sh m md t,by rw [sh_lin]⟩
theorem Cg.pol {p:Int} {u v:Vec} (m:Nat) (md b:Vec) (k:Nat) (h:Cg p u v):Cg p (pol m md b k u) (pol m md b k v):=by
 obtain ⟨t,rfl⟩:=h
 exact ⟨Pln.pol m md b k t,by rw [pol_lin]⟩
theorem Cg.coef {p:Int} {b c:Vec} (m:Nat) (md a:Vec) (k:Nat) (h:Cg p b c):Cg p (Pln.pol m md b k a) (Pln.pol m md c k a):=by
 obtain ⟨t,rfl⟩:=h
 exact ⟨Pln.pol m md t k a,by rw [qeW]⟩
def digs (p:Nat):Nat->Nat->List Nat
 | 0,_=>[]
 | m+1,x=>x % p :: digs p m (x / p)
def val (p:Nat):List Nat->Nat
 | []=>0
 | d :: r=>d+p*val p r
def Dig (p m:Nat) (l:List Nat):Prop:=l.length=m/\∀ d∈l,d<p
def F (l:List Nat):Vec:=fun j=>((l.getD j 0:Nat):Int)
theorem qcL {l:List Nat} {j:Nat} (h:l.length<=j):l.getD j 0=0:=by simp [List.getD,List.getElem?_eq_none h]
theorem qaK (p:Nat):∀ m x,(digs p m x).length=m
 | 0,_=>rfl
 | m+1,x=>by simp [digs,qaK p m]
theorem qeQ {p:Nat} (hp:0<p):∀ m x,∀ d∈digs p m x,d<p
 | 0,_=>by simp [digs]
 | m + 1,x => by
   intro d hd
   simp only [digs,List.mem_cons] at hd
   rcases hd with rfl | hd
   . exact Nat.mod_lt _ hp
   . exact qeQ hp m _ d hd
theorem qcV {p:Nat} (hp:0<p) (m x:Nat):Dig p m (digs p m x):=⟨qaK p m x,qeQ hp m x⟩
theorem val_digs {p:Nat} (hp:0<p):∀ m x,x<p ^ m->val p (digs p m x)=x
 | 0,x,h=>by simp at h;simp [digs,val,h]
 | m + 1,x,h => by
   have h1:x / p<p ^ m:=by rw [Nat.div_lt_iff_lt_mul hp];rwa [Nat.pow_succ] at h
   simp only [digs,val,val_digs hp m _ h1]
   exact Nat.mod_add_div x p
theorem qdP {p:Nat} (hp:0<p):∀ l:List Nat,(∀ d∈l,d<p)->digs p l.length (val p l)=l
 | [],_=>rfl
 | d :: r,h => by
   have hd:=h d (List.mem_cons_self ..)
   have:=qdP hp r (fun y hy=>h y (List.mem_cons_of_mem _ hy))
   simp only [val,List.length_cons,digs]
   rw [Nat.add_mul_mod_self_left,Nat.mod_eq_of_lt hd,Nat.add_mul_div_left _ _ hp,Nat.div_eq_of_lt hd,Nat.zero_add,this]
theorem val_lt {p:Nat} (hp:0<p):∀ l:List Nat,(∀ d∈l,d<p)->val p l<p ^ l.length
 | [],_=>by simp [val]
 | d :: r,h => by
   have hd:=h d (List.mem_cons_self ..)
   have:=val_lt hp r (fun y hy=>h y (List.mem_cons_of_mem _ hy))
   simp only [val,List.length_cons,Nat.pow_succ]
   have h2:p*(val p r+1)<=p*p ^ r.length:=Nat.mul_le_mul_left _ this
   rw [Nat.mul_comm (p ^ r.length) p]
   rw [Nat.mul_add,Nat.mul_one] at h2
   omega
theorem qdM {m:Nat} {l:List Nat} (h:l.length<=m):Supp m (F l):=fun j hj=>by
 unfold F
 rw [qcL (by omega)]
 rfl
theorem F_inj {p:Nat} {l l':List Nat} (hl:l.length=l'.length) (h:∀ d∈l,d<p) (h':∀ d∈l',d<p) (hc:Cg p (F l) (F l')):l=l':=by
 apply List.ext_getElem hl
 intro j h1 h2
 have:=hc.at_ j
 unfold F at this
 have e1:l.getD j 0=l[j]:=by simp [List.getD,h1]
 have e2:l'.getD j 0=l'[j]:=by simp [List.getD,h2]
 rw [e1,e2] at this
 have a1:=h _ (List.getElem_mem h1)
 have a2:=h' _ (List.getElem_mem h2)
 rw [Int.emod_eq_of_lt (by omega) (by omega),Int.emod_eq_of_lt (by omega) (by omega)] at this
 omega
def stepM (p m:Nat) (md a:List Nat) (bi:Nat) (out:List Nat):List Nat :=
 (List.range m).map fun j=>((if j=0 then 0 else out.getD (j-1) 0)+(p-out.getD (m-1) 0)*md.getD j 0+bi*a.getD j 0) % p
def mulL (p m:Nat) (md a b:List Nat):List Nat:=b.foldr (fun bi out=>stepM p m md a bi out) (List.replicate m 0)
theorem stepM_dig {p m:Nat} (hp:0<p) (md a:List Nat) (bi:Nat) (out:List Nat):Dig p m (stepM p m md a bi out):=by
 refine ⟨by simp [stepM],?_⟩
 intro d hd
 unfold stepM at hd
 obtain ⟨j,_,rfl⟩:=List.mem_map.1 hd
 exact Nat.mod_lt _ hp
theorem getD_lt {p m:Nat} (hp:0<p) {l:List Nat} (h:Dig p m l) (j:Nat):l.getD j 0<p:=by
 by_cases hj:j<l.length
 . have : l.getD j 0 = l[j] := by simp [List.getD,hj]
   rw [this]
   exact h.2 _ (List.getElem_mem hj)
 . rw [qcL (by omega)]
   exact hp
theorem stepM_spec {p m:Nat} (hp:0<p) (md a:List Nat) (ha:a.length=m) (bi:Nat) (out:List Nat) (ho:Dig p m out) :
 Cg p (F (stepM p m md a bi out)) (fun j=>(bi:Int)*F a j+sh m (F md) (F out) j):=by
 apply Cg.mk
 intro j
 by_cases hj:j<m
 . have e : (stepM p m md a bi out).getD j 0 = ((if j = 0 then 0 else out.getD (j - 1) 0) + (p - out.getD (m - 1) 0) * md.getD j 0 + bi * a.getD j 0) % p := by
    simp [stepM,List.getD,hj]
   have ht:=getD_lt hp ho (m-1)
   show ((((stepM p m md a bi out).getD j 0:Nat):Int)) % p=_
   rw [e]
   unfold sh F
   rw [if_pos hj]
   generalize out.getD (m-1) 0=t at *
   generalize md.getD j 0=d at *
   generalize a.getD j 0=y at *
   have hs:(((if j=0 then 0 else out.getD (j-1) 0):Nat):Int)=(if j=0 then (0:Int) else ((out.getD (j-1) 0:Nat):Int)):=by split <;> rfl
   rw [<- hs]
   generalize (if j=0 then 0 else out.getD (j-1) 0)=s at *
   have hc:(((s+(p-t)*d+bi*y) % p:Nat):Int)=((bi:Int)*y+(s-(t:Int)*d)+p*d) % p:=by
    rw [Int.natCast_emod]
    congr 1
    rw [Int.natCast_add,Int.natCast_add,Int.natCast_mul,Int.natCast_mul,Int.natCast_sub (Nat.le_of_lt ht)]
    grind
   rw [hc,Int.add_mul_emod_self_left,Int.emod_emod]
 . have h1 : F (stepM p m md a bi out) j = 0 := qdM (m := m) (by simp [stepM]) j (by omega)
   have h2:F a j=0:=qdM (m:=m) (by omega) j (by omega)
   have h3:sh m (F md) (F out) j=0:=sh_supp m _ _ j (by omega)
   rw [h1,h2,h3]
   simp
theorem qaY {p m:Nat} (hp:0<p) (md a b:List Nat):Dig p m (mulL p m md a b):=by
 cases b with
 | nil=>exact ⟨by simp [mulL],fun d hd=>by simp [mulL] at hd;omega⟩
 | cons x r=>exact stepM_dig hp md a x _
theorem F_zero (m:Nat):F (List.replicate m 0)=fun _=>0:=by
 funext j
 unfold F
 simp [List.getD,List.getElem?_replicate]
 split <;> simp
theorem F_cons (x:Nat) (r:List Nat) (i:Nat):F (x :: r) (i+1)=F r i:=by simp [F]
theorem mulL_spec' {p m:Nat} (hp:0<p) (md a:List Nat) (ha:a.length=m):∀ b:List Nat,Cg p (F (mulL p m md a b)) (pol m (F md) (F b) b.length (F a))
 | [] => by
   apply Cg.of_eq
   show F (List.replicate m 0)=_
   rw [F_zero]
   rfl
 | x :: r => by
   have ih:=mulL_spec' hp md a ha r
   have h1:=stepM_spec hp md a ha x (mulL p m md a r) (qaY hp md a r)
   refine Cg.trans h1 ?_
   rw [List.length_cons,pol_horner]
   have e:(fun i=>F (x :: r) (i+1))=F r:=by funext i;exact F_cons x r i
   rw [e]
   exact Cg.lin _ (Cg.refl _ _) (ih.sh m (F md))
theorem qbN {p m:Nat} (hp:0<p) (md a b:List Nat) (ha:a.length=m) (hb:b.length=m):Cg p (F (mulL p m md a b)) (mz m (F md) (F a) (F b)):=by
 have:=mulL_spec' hp md a ha b
 rw [hb] at this
 exact this
theorem mz_cg {p:Int} {m:Nat} {md a a' b b':Vec} (ha:Cg p a a') (hb:Cg p b b'):Cg p (mz m md a b) (mz m md a' b'):=(ha.pol m md b m).trans (hb.coef m md a' m)
theorem mulL_comm {p m:Nat} (hp:0<p) (md a b:List Nat) (ha:a.length=m) (hb:b.length=m):mulL p m md a b=mulL p m md b a:=by
 have h1:=qaY (m:=m) hp md a b
 have h2:=qaY (m:=m) hp md b a
 refine F_inj (h1.1.trans h2.1.symm) h1.2 h2.2 ?_
 refine (qbN hp md a b ha hb).trans (Cg.trans (Cg.of_eq ?_) (qbN hp md b a hb ha).symm)
 exact mz_comm m _ (qdM (by omega)) (qdM (by omega))
theorem mulL_assoc {p m:Nat} (hp:0<p) (md a b c:List Nat) (ha:a.length=m) (hb:b.length=m) (hc:c.length=m) :
 mulL p m md (mulL p m md a b) c=mulL p m md a (mulL p m md b c):=by
 have d1:=qaY (m:=m) hp md a b
 have d2:=qaY (m:=m) hp md b c
 have h1:=qaY (m:=m) hp md (mulL p m md a b) c
 have h2:=qaY (m:=m) hp md a (mulL p m md b c)
 refine F_inj (h1.1.trans h2.1.symm) h1.2 h2.2 ?_
 refine (qbN hp md _ c d1.1 hc).trans (Cg.trans (mz_cg (qbN hp md a b ha hb) (Cg.refl _ _)) ?_)
 refine Cg.trans (Cg.of_eq (mz_assoc m _ (qdM (by omega)) (qdM (by omega)))) ?_
 exact (mz_cg (Cg.refl _ _) (qbN hp md b c hb hc).symm).trans (qbN hp md a _ ha d2.1).symm
def addAt (p:Nat) (c:List Nat) (k z:Nat):List Nat:=c.set k ((c.getD k 0+z) % p)
def convRow (p i ai:Nat) (b c:List Nat):Nat->List Nat
 | 0=>c
 | j+1=>addAt p (convRow p i ai b c j) (i+j) (ai*b.getD j 0)
def conv (p m:Nat) (a b:List Nat):Nat->List Nat
 | 0=>List.replicate (2*m-1) 0
 | i+1=>convRow p i (a.getD i 0) b (conv p m a b i) m
def redRow (p m:Nat) (md:List Nat) (i:Nat) (c:List Nat):Nat->List Nat
 | 0=>c
 | j+1=>addAt p (redRow p m md i c j) (i-m+j) ((p-(redRow p m md i c j).getD i 0)*md.getD j 0)
def red (p m:Nat) (md c:List Nat):Nat->List Nat
 | 0=>c
 | t+1=>redRow p m md (2*m-2-t) (red p m md c t) m
def refMulL (p m:Nat) (md a b:List Nat):List Nat:=(red p m md (conv p m a b m) (m-1)).take m
theorem addAt_dig {p n:Nat} (hp:0<p) {c:List Nat} (h:Dig p n c) (k z:Nat):Dig p n (addAt p c k z):=by
 refine ⟨by simp [addAt,h.1],fun d hd=>?_⟩
 rcases List.mem_or_eq_of_mem_set hd with h' | rfl
 . exact h.2 _ h'
 . exact Nat.mod_lt _ hp
theorem F_addAt {p n:Nat} {c:List Nat} (hc:c.length=n) (k z:Nat) (hk:k<n) :
 Cg p (F (addAt p c k z)) (fun j=>(z:Int)*(if j=k then 1 else 0)+F c j):=by
 apply Cg.mk
 intro j
 by_cases hj:j=k
 . subst hj
   have e:(addAt p c j z).getD j 0=(c.getD j 0+z) % p:=by simp [addAt,List.getD,hc,hk]
   unfold F
   rw [e,if_pos rfl]
   rw [Int.natCast_emod,Int.emod_emod,Int.natCast_add]
   congr 1
   omega
 . have e : (addAt p c k z).getD j 0 = c.getD j 0 := by
    simp only [addAt,List.getD]
    rw [List.getElem?_set_ne (by omega)]
   unfold F
   rw [e,if_neg hj]
   simp
theorem pol_delta (m:Nat) (md:Vec) (k:Nat) (a:Vec):∀ n,k<n->pol m md (fun j=>if j=k then 1 else 0) n a=shN m md k a
 | 0,h=>absurd h (by omega)
 | n + 1,h => by
   funext j
   simp only [pol]
   by_cases hk:n=k
   . subst hk
     have:∀ i,i<=n->pol m md (fun j=>if j=n then 1 else 0) i a=fun _=>0:=by
      intro i
      induction i with
      | zero=>intro _;rfl
      | succ i ih=>intro hi;funext j;simp [pol,ih (by omega),show ¬ i=n by omega]
     rw [this n (Nat.le_refl _)]
     simp
   . rw [pol_delta m md k a n (by omega),if_neg hk]
     simp
def ev (m:Nat) (md:Vec) (c:List Nat) (k:Nat):Vec:=pol m md (F c) k un
theorem ev_addAt {p m:Nat} (md:Vec) {n:Nat} {c:List Nat} (hc:n<=c.length) (k z:Nat) (hk:k<n) :
 Cg p (ev m md (addAt p c k z) n) (fun j=>(z:Int)*shN m md k un j+ev m md c n j):=by
 have h:=(F_addAt (p:=p) (c:=c) rfl k z (by omega)).coef m md un n
 refine Cg.trans h ?_
 rw [qeW,pol_delta m md k un n hk]
 exact Cg.refl _ _
theorem qeJ {p n:Nat} (hp:0<p) (i ai:Nat) (b:List Nat) {c:List Nat} (h:Dig p n c):∀ j,Dig p n (convRow p i ai b c j)
 | 0=>h
 | j+1=>addAt_dig hp (qeJ hp i ai b h j) _ _
theorem convRow_ev {p m:Nat} (hp:0<p) (md:Vec) (i ai:Nat) (b:List Nat) {c:List Nat} (hc:Dig p (2*m-1) c) (hi:i<m) :
 ∀ j,j<=m->Cg p (ev m md (convRow p i ai b c j) (2*m-1)) (fun k=>(ai:Int)*shN m md i (pol m md (F b) j un) k+ev m md c (2*m-1) k)
 | 0,_ => by
   apply Cg.of_eq
   funext k
   simp [convRow,pol,qeZ]
 | j + 1,hj => by
   have h1:=ev_addAt (p:=p) (m:=m) md (n:=2*m-1) (c:=convRow p i ai b c j) (Nat.le_of_eq (qeJ hp i ai b hc j).1.symm) (i+j) (ai*b.getD j 0) (by omega)
   have h2:=convRow_ev hp md i ai b hc hi j (by omega)
   refine Cg.trans h1 (Cg.trans (Cg.lin _ (Cg.refl _ _) h2) (Cg.of_eq ?_))
   funext k
   have e:pol m md (F b) (j+1) un=fun k=>F b j*shN m md j un k+pol m md (F b) j un k:=rfl
   rw [e,qfQ,<- shN_add]
   unfold F
   rw [Int.natCast_mul]
   grind
theorem qdR {p:Nat} (hp:0<p) (m:Nat) (a b:List Nat):∀ i,Dig p (2*m-1) (conv p m a b i)
 | 0=>⟨by simp [conv],fun d hd=>by simp [conv] at hd;omega⟩
 | i+1=>qeJ hp i _ b (qdR hp m a b i) m
theorem conv_ev {p m:Nat} (hp:0<p) (md:Vec) (a b:List Nat) (hb:b.length=m):∀ i,i<=m->Cg p (ev m md (conv p m a b i) (2*m-1)) (pol m md (F a) i (F b))
 | 0,_ => by
   apply Cg.of_eq
   have:F (conv p m a b 0)=fun _=>0:=F_zero _
   unfold ev
   rw [this]
   have h0:∀ n,pol m md (fun _=>0) n un=fun _=>0:=by
    intro n
    induction n with
    | zero=>rfl
    | succ n ih=>funext j;simp [pol,ih]
   rw [h0]
   rfl
 | i + 1,hi => by
   have h1:=convRow_ev hp md i (a.getD i 0) b (qdR hp m a b i) (by omega) m (Nat.le_refl _)
   have h2:=conv_ev hp md a b hb i (by omega)
   have e:pol m md (F b) m un=F b:=pol_id m md (qdM (by omega))
   rw [e] at h1
   exact Cg.trans h1 (Cg.lin _ (Cg.refl _ _) h2)
theorem qfE {p n:Nat} (hp:0<p) (m:Nat) (md:List Nat) (i:Nat) {c:List Nat} (h:Dig p n c):∀ j,Dig p n (redRow p m md i c j)
 | 0=>h
 | j+1=>addAt_dig hp (qfE hp m md i h j) _ _
theorem redRow_at {p m:Nat} (md:List Nat) {i:Nat} (hi:m<=i) (c:List Nat):∀ j,j<=m->(redRow p m md i c j).getD i 0=c.getD i 0
 | 0,_=>rfl
 | j + 1,hj => by
   have:=redRow_at (p:=p) md hi c j (by omega)
   rw [<- this]
   simp only [redRow,addAt,List.getD]
   rw [List.getElem?_set_ne (by omega)]
theorem redRow_ev {p m:Nat} (hp:0<p) (md:List Nat) {i:Nat} (hi:m<=i) {c:List Nat} (hc:Dig p (2*m-1) c) (hi2:i<2*m-1) :
 ∀ j,j<=m->Cg p (ev m (F md) (redRow p m md i c j) i) (fun k=>(((p-c.getD i 0:Nat):Int))*shN m (F md) (i-m) (pol m (F md) (F md) j un) k+ev m (F md) c i k)
 | 0,_ => by
   apply Cg.of_eq
   funext k
   simp [redRow,pol,qeZ]
 | j + 1,hj => by
   have hl:=(qfE hp m md i hc j).1
   have h1:=ev_addAt (p:=p) (m:=m) (F md) (n:=i) (c:=redRow p m md i c j) (by omega) (i-m+j) ((p-(redRow p m md i c j).getD i 0)*md.getD j 0) (by omega)
   have h2:=redRow_ev hp md hi hc hi2 j (by omega)
   rw [redRow_at md hi c j (by omega)] at h1
   have h1':Cg p (ev m (F md) (redRow p m md i c (j+1)) i) (fun k=>(((p-c.getD i 0)*md.getD j 0:Nat):Int)*shN m (F md) (i-m+j) un k+ev m (F md) (redRow p m md i c j) i k):=by
    have e:redRow p m md i c (j+1)=addAt p (redRow p m md i c j) (i-m+j) ((p-c.getD i 0)*md.getD j 0):=by
     show addAt p (redRow p m md i c j) (i-m+j) ((p-(redRow p m md i c j).getD i 0)*md.getD j 0)=_
     rw [redRow_at md hi c j (by omega)]
    rw [e]
    exact h1
   refine Cg.trans h1' (Cg.trans (Cg.lin _ (Cg.refl _ _) h2) (Cg.of_eq ?_))
   funext k
   have e:pol m (F md) (F md) (j+1) un=fun k=>F md j*shN m (F md) j un k+pol m (F md) (F md) j un k:=rfl
   rw [e,qfQ,<- shN_add]
   have e2:F md j=((md.getD j 0:Nat):Int):=rfl
   rw [e2,Int.natCast_mul]
   grind
theorem red_step {p m:Nat} (hp:0<p) (md:List Nat) (hmd:md.length=m) {i:Nat} (hi:m<=i) {c:List Nat} (hc:Dig p (2*m-1) c) (hi2:i<2*m-1) :
 Cg p (ev m (F md) (redRow p m md i c m) i) (ev m (F md) c (i+1)):=by
 have hlt:=getD_lt hp hc i
 refine Cg.trans (redRow_ev hp md hi hc hi2 m (Nat.le_refl _)) ?_
 rw [pol_id m (F md) (qdM (by omega))]
 have htop:shN m (F md) i un=fun k=>(-1)*shN m (F md) (i-m) (F md) k+0:=by
  have h1:i=(i-m)+m:=by omega
  conv=>lhs;rw [h1]
  rw [shN_add,shN_un_top m (F md) (by omega)]
  have e:(fun j=>if j<m then-F md j else 0)=fun j=>(-1)*F md j+(fun _=>(0:Int)) j:=by
   funext j
   by_cases hj:j<m
   . rw [if_pos hj];show-F md j=-1*F md j+0;omega
   . rw [if_neg hj,qdM (m:=m) (by omega) j (by omega)];rfl
  rw [e,qfQ,qeZ]
 refine ⟨fun k=>shN m (F md) (i-m) (F md) k,?_⟩
 funext k
 show _=_+(F c i*shN m (F md) i un k+ev m (F md) c i k)
 rw [htop]
 have e2:F c i=((c.getD i 0:Nat):Int):=rfl
 rw [e2,Int.natCast_sub (Nat.le_of_lt hlt)]
 grind
theorem red_dig {p:Nat} (hp:0<p) (m:Nat) (md:List Nat) {c:List Nat} (h:Dig p (2*m-1) c):∀ t,Dig p (2*m-1) (red p m md c t)
 | 0=>h
 | t+1=>qfE hp m md _ (red_dig hp m md h t) m
theorem red_ev {p m:Nat} (hp:0<p) (md:List Nat) (hmd:md.length=m) {c:List Nat} (hc:Dig p (2*m-1) c) :
 ∀ t,t<=m-1->Cg p (ev m (F md) (red p m md c t) (2*m-1-t)) (ev m (F md) c (2*m-1))
 | 0,_=>Cg.refl _ _
 | t + 1,ht => by
   have h1:=red_step hp md hmd (i:=2*m-2-t) (by omega) (red_dig hp m md hc t) (by omega)
   have h2:=red_ev hp md hmd hc t (by omega)
   have e1:2*m-1-(t+1)=2*m-2-t:=by omega
   have e2:2*m-2-t+1=2*m-1-t:=by omega
   rw [e1]
   rw [e2] at h1
   exact Cg.trans h1 h2
theorem refMulL_dig {p m:Nat} (hp:0<p) (hm:0<m) (md a b:List Nat):Dig p m (refMulL p m md a b):=by
 have:=red_dig hp m md (qdR hp m a b m) (m-1)
 exact ⟨by simp [refMulL,this.1];omega,fun d hd=>this.2 d (List.mem_of_mem_take hd)⟩
theorem refMulL_spec {p m:Nat} (hp:0<p) (hm:0<m) (md a b:List Nat) (hmd:md.length=m) (ha:a.length=m) (hb:b.length=m):Cg p (F (refMulL p m md a b)) (mz m (F md) (F a) (F b)):=by
 have h1:=red_ev hp md hmd (qdR hp m a b m) (m-1) (Nat.le_refl _)
 have e1:2*m-1-(m-1)=m:=by omega
 rw [e1] at h1
 have h2:=conv_ev hp (F md) a b hb m (Nat.le_refl _)
 have e2:F (refMulL p m md a b)=ev m (F md) (red p m md (conv p m a b m) (m-1)) m:=by
  unfold ev
  rw [pol_un m _ _ m (Nat.le_refl _)]
  funext j
  unfold F refMulL
  by_cases hj:j<m
  . rw [if_pos hj];simp [List.getD,hj]
  . rw [if_neg hj,qcL (by simp;omega)];rfl
 rw [e2]
 refine Cg.trans h1 (Cg.trans h2 (Cg.of_eq ?_))
 exact mz_comm m _ (qdM (by omega)) (qdM (by omega))
theorem refMulL_eq {p m:Nat} (hp:0<p) (hm:0<m) (md a b:List Nat) (hmd:md.length=m) (ha:a.length=m) (hb:b.length=m):refMulL p m md a b=mulL p m md a b:=by
 have h1:=refMulL_dig hp hm md a b
 have h2:=qaY (m:=m) hp md a b
 exact F_inj (h1.1.trans h2.1.symm) h1.2 h2.2 ((refMulL_spec hp hm md a b hmd ha hb).trans (qbN hp md a b ha hb).symm)
end Go.Proofs.YtlmglaonldlanaaGreat.Pln
namespace Go.Proofs.YtlmglaonldlanaaGreat.Pln
structure Mon (q:Nat) (mul:Nat->Nat->Nat):Prop where
 lt:∀ x y,mul x y<q
 comm:∀ x y,mul x y=mul y x
 assoc:∀ x y z,mul (mul x y) z=mul x (mul y z)
 one:∀ x,x<q->mul 1 x=x
 zero:∀ x,mul 0 x=0
 q1:1<q
def pw (mul:Nat->Nat->Nat) (x:Nat):Nat->Nat
 | 0=>1
 | k+1=>mul (pw mul x k) x
def pows (mul:Nat->Nat->Nat) (x:Nat):Nat->Nat->List Nat->List Nat
 | 0,_,acc=>acc
 | g+1,y,acc=>if y=0\/y∈acc then acc else pows mul x g (mul y x) (acc++[y])
def powers (mul:Nat->Nat->Nat) (q x:Nat):List Nat:=pows mul x q x [1]
def genGo (mul:Nat->Nat->Nat) (q:Nat):Nat->Nat->List Nat
 | 0,_=>[]
 | g+1,x=>if (powers mul q x).length=q-1/\mul ((powers mul q x).getD (q-2) 0) x=1 then powers mul q x else genGo mul q g (x+1)
def genM (mul:Nat->Nat->Nat) (q:Nat):List Nat:=genGo mul q (q-1) 1
def pl (mul:Nat->Nat->Nat) (x k:Nat):List Nat:=(List.range k).map (pw mul x)
structure Tab (q:Nat) (mul:Nat->Nat->Nat) (l:List Nat):Prop where
 ex:∃ x,1<=x/\x<q/\l=pl mul x (q-1)/\pw mul x (q-1)=1
 nd:l.Nodup
 nz:∀ a∈l,a≠0
 lt:∀ a∈l,a<q
theorem pigeon:∀ (n:Nat) (l:List Nat),l.Nodup->(∀ a∈l,a<n)->l.length<=n
 | 0,l,_,h => by
   cases l with
   | nil=>simp
   | cons a r=>exact absurd (h a (List.mem_cons_self ..)) (by omega)
 | n + 1,l,hn,h => by
   by_cases hm:n∈l
   . have h1 := pigeon n (l.erase n) (hn.erase n) (fun a ha => by
      have h2:=h a (List.mem_of_mem_erase ha)
      have h3:a≠n:=fun e=>by subst e;exact (List.Nodup.not_mem_erase hn) ha
      omega)
     have h2:=List.length_erase_of_mem hm
     omega
   . have h1 := pigeon n l hn (fun a ha => by
      have h2:=h a ha
      have h3:a≠n:=fun e=>by subst e;exact hm ha
      omega)
     omega
section
variable {q:Nat} {mul:Nat->Nat->Nat}
theorem pw_lt (H:Mon q mul) (x:Nat):∀ k,pw mul x k<q
 | 0=>H.q1
 | _+1=>H.lt _ _
theorem pw_add (H:Mon q mul) (x i:Nat):∀ j,pw mul x (i+j)=mul (pw mul x i) (pw mul x j)
 | 0=>by show pw mul x i=mul (pw mul x i) 1;rw [H.comm,H.one _ (pw_lt H x i)]
 | j+1=>by show mul (pw mul x (i+j)) x=mul (pw mul x i) (mul (pw mul x j) x);rw [pw_add H x i j,H.assoc]
theorem pw_zero (H:Mon q mul) {x i:Nat} (h:pw mul x i=0) (j:Nat):pw mul x (i+j)=0:=by rw [pw_add H,h,H.zero]
theorem pw_per (H:Mon q mul) {x n:Nat} (h:pw mul x n=1) (k:Nat):pw mul x (n+k)=pw mul x k:=by rw [pw_add H,h,H.one _ (pw_lt H x k)]
theorem pw_pers (H:Mon q mul) {x n:Nat} (h:pw mul x n=1) (k:Nat):∀ t,pw mul x (n*t+k)=pw mul x k
 | 0=>by simp
 | t+1=>by rw [Nat.mul_succ,Nat.add_right_comm,Nat.add_comm (n*t+k) n,pw_per H h,pw_pers H h k t]
theorem pw_mod (H:Mon q mul) {x n:Nat} (h:pw mul x n=1) (k:Nat):pw mul x (k % n)=pw mul x k:=by
 conv=>rhs;rw [<- Nat.div_add_mod k n]
 rw [pw_pers H h]
theorem pl_succ (x k:Nat):pl mul x (k+1)=pl mul x k++[pw mul x k]:=by simp [pl,List.range_succ]
theorem pl_len (x k:Nat):(pl mul x k).length=k:=by simp [pl]
theorem mem_pl {x k a:Nat}:a∈pl mul x k ↔ ∃ i,i<k/\pw mul x i=a:=by simp [pl]
def Good (mul:Nat->Nat->Nat) (x k:Nat):Prop:=(pl mul x k).Nodup/\∀ a∈pl mul x k,a≠0
theorem good_one (x:Nat):Good mul x 1:=by
 have e:pl mul x 1=[1]:=rfl
 unfold Good
 rw [e]
 simp
theorem good_succ {x k:Nat} (h:Good mul x k) (h0:pw mul x k≠0) (hm:pw mul x k∉pl mul x k):Good mul x (k+1):=by
 unfold Good at h ⊢
 rw [pl_succ]
 refine ⟨?_,?_⟩
 . rw [List.nodup_append]
   refine ⟨h.1,by simp,?_⟩
   intro a ha b hb e
   simp at hb
   subst hb
   subst e
   exact hm ha
 . intro a ha
   rcases List.mem_append.1 ha with h1 | h1
   . exact h.2 a h1
   . simp at h1
     rw [h1]
     exact h0
theorem good_len (H:Mon q mul) {x k:Nat} (h:Good mul x k):k<=q-1:=by
 have h1:(0 :: pl mul x k).Nodup:=by
  rw [List.nodup_cons]
  exact ⟨fun hm=>h.2 0 hm rfl,h.1⟩
 have h2:=pigeon q _ h1 (fun a ha=>by
  rcases List.mem_cons.1 ha with rfl | ha
  . have:=H.q1;omega
  . obtain ⟨i,_,rfl⟩ := mem_pl.1 ha
    exact pw_lt H x i)
 simp [pl_len] at h2
 omega
theorem pows_spec (H:Mon q mul) (x:Nat):∀ g k,Good mul x k->1<=k->∃ k',Good mul x k'/\k<=k'/\pows mul x g (pw mul x k) (pl mul x k)=pl mul x k'
 | 0,k,h,_=>⟨k,h,Nat.le_refl _,rfl⟩
 | g + 1,k,h,hk => by
   by_cases hs:pw mul x k=0\/pw mul x k∈pl mul x k
   . exact ⟨k,h,Nat.le_refl _,by simp [pows,hs]⟩
   . have hs' : pw mul x k ≠ 0 /\ pw mul x k ∉ pl mul x k := ⟨fun e => hs (.inl e),fun e => hs (.inr e)⟩
     obtain ⟨k',h1,h2,h3⟩:=pows_spec H x g (k+1) (good_succ h hs'.1 hs'.2) (by omega)
     refine ⟨k',h1,by omega,?_⟩
     rw [<- h3,pl_succ]
     simp only [pows,if_neg hs]
     rfl
theorem powers_spec (H:Mon q mul) {x:Nat} (hx:x<q):∃ k,Good mul x k/\1<=k/\powers mul q x=pl mul x k:=by
 have h1:pw mul x 1=x:=by show mul 1 x=x;exact H.one x hx
 obtain ⟨k,h,hk,e⟩:=pows_spec H x q 1 (good_one x) (Nat.le_refl _)
 rw [h1] at e
 exact ⟨k,h,hk,e⟩
theorem tab_of (H:Mon q mul) {x:Nat} (h1:1<=x) (hx:x<q) (hl:(powers mul q x).length=q-1) (hm:mul ((powers mul q x).getD (q-2) 0) x=1):Tab q mul (powers mul q x):=by
 obtain ⟨k,hg,hk,e⟩:=powers_spec H hx
 rw [e,pl_len] at hl
 subst hl
 rw [e] at hm ⊢
 have hq:=H.q1
 refine ⟨⟨x,h1,hx,rfl,?_⟩,hg.1,hg.2,fun a ha=>?_⟩
 . obtain ⟨n,hn⟩ : ∃ n,q = n + 2 := ⟨q - 2,by omega⟩
   subst hn
   have e2:(pl mul x (n+2-1)).getD (n+2-2) 0=pw mul x n:=by simp [pl,List.getD]
   rw [e2] at hm
   exact hm
 . obtain ⟨i,_,rfl⟩ := mem_pl.1 ha
   exact pw_lt H x i
theorem genGo_tab (H:Mon q mul):∀ g x,1<=x->x+g<=q->genGo mul q g x≠[]->Tab q mul (genGo mul q g x)
 | 0,_,_,_,h=>absurd rfl h
 | g + 1,x,h1,h2,h => by
   unfold genGo at h ⊢
   by_cases hc:(powers mul q x).length=q-1/\mul ((powers mul q x).getD (q-2) 0) x=1
   . rw [if_pos hc]
     exact tab_of H h1 (by omega) hc.1 hc.2
   . rw [if_neg hc] at h ⊢
     exact genGo_tab H g (x+1) (by omega) (by omega) h
theorem genM_tab (H:Mon q mul) (h:genM mul q≠[]):Tab q mul (genM mul q):=genGo_tab H (q-1) 1 (Nat.le_refl _) (by have:=H.q1;omega) h
def Prim (mul:Nat->Nat->Nat) (q x:Nat):Prop:=pw mul x (q-1)=1/\∀ i,0<i->i<q-1->pw mul x i≠1
theorem prim_good (H:Mon q mul) {x:Nat} (hp:Prim mul q x):∀ k,1<=k->k<=q-1->Good mul x k
 | 0,h,_=>absurd h (by omega)
 | 1,_,_=>good_one x
 | k + 2,_,hk => by
   refine good_succ (prim_good H hp (k+1) (by omega) (by omega)) ?_ ?_
   . intro h0
     have:=pw_zero H h0 (q-1-(k+1))
     rw [show k+1+(q-1-(k+1))=q-1 by omega,hp.1] at this
     exact absurd this (by omega)
   . intro hm
     obtain ⟨i,hi,e⟩:=mem_pl.1 hm
     have h1:pw mul x (i+(q-1-i))=1:=by rw [show i+(q-1-i)=q-1 by omega];exact hp.1
     have h2:pw mul x (k+1+(q-1-i))=pw mul x (k+1-i):=by
      rw [show k+1+(q-1-i)=(q-1)+(k+1-i) by omega]
      exact pw_per H hp.1 _
     rw [pw_add H] at h1 h2
     rw [e,h2] at h1
     exact hp.2 _ (by omega) (by omega) h1
theorem pows_prim (H:Mon q mul) {x:Nat} (hp:Prim mul q x):∀ g k,1<=k->k<=q-1->q-1<=k+g->pows mul x g (pw mul x k) (pl mul x k)=pl mul x (q-1)
 | 0,k,h1,h2,h3 => by
   obtain rfl:k=q-1:=by omega
   rfl
 | g + 1,k,h1,h2,h3 => by
   by_cases hk:k=q-1
   . subst hk
     have:pw mul x (q-1)∈pl mul x (q-1):=mem_pl.2 ⟨0,by omega,by rw [hp.1];rfl⟩
     simp [pows,this]
   . have hg := prim_good H hp (k + 1) (by omega) (by omega)
     have hs:¬ (pw mul x k=0\/pw mul x k∈pl mul x k):=by
      unfold Good at hg
      rw [pl_succ] at hg
      rintro (h | h)
      . exact hg.2 _ (List.mem_append.2 (.inr (List.mem_singleton.2 rfl))) h
      . exact (List.nodup_append.1 hg.1).2.2 _ h _ (List.mem_singleton.2 rfl) rfl
     have:=pows_prim H hp g (k+1) (by omega) (by omega) (by omega)
     rw [<- this,pl_succ]
     simp only [pows,if_neg hs]
     rfl
theorem powers_prim (H:Mon q mul) {x:Nat} (hx:x<q) (hp:Prim mul q x):powers mul q x=pl mul x (q-1):=by
 have h1:pw mul x 1=x:=by show mul 1 x=x;exact H.one x hx
 have hq:=H.q1
 have:=pows_prim H hp q 1 (Nat.le_refl _) (by omega) (by omega)
 rw [h1] at this
 exact this
theorem genGo_some (H:Mon q mul) {x:Nat} (hx:x<q) (hp:Prim mul q x):∀ g y,1<=y->y<=x->x<y+g->genGo mul q g y≠[]
 | 0,_,_,_,h=>absurd h (by omega)
 | g + 1,y,h1,h2,h3 => by
   unfold genGo
   have hq:=H.q1
   by_cases hc:(powers mul q y).length=q-1/\mul ((powers mul q y).getD (q-2) 0) y=1
   . rw [if_pos hc]
     intro e
     rw [e] at hc
     simp at hc
     omega
   . rw [if_neg hc]
     have hne:y≠x:=by
      rintro rfl
      apply hc
      rw [powers_prim H hx hp,pl_len]
      refine ⟨rfl,?_⟩
      obtain ⟨n,hn⟩:∃ n,q=n+2:=⟨q-2,by omega⟩
      subst hn
      have e2:(pl mul y (n+2-1)).getD (n+2-2) 0=pw mul y n:=by simp [pl,List.getD]
      rw [e2]
      exact hp.1
     exact genGo_some H hx hp g (y+1) (by omega) (by omega) (by omega)
theorem genM_some (H:Mon q mul) {x:Nat} (h1:1<=x) (hx:x<q) (hp:Prim mul q x):genM mul q≠[]:=genGo_some H hx hp (q-1) 1 (Nat.le_refl _) h1 (by omega)
theorem Tab.len {l:List Nat} (T:Tab q mul l):l.length=q-1:=by
 obtain ⟨x,_,_,e,_⟩:=T.ex
 rw [e,pl_len]
theorem Tab.full (H:Mon q mul) {l:List Nat} (T:Tab q mul l) {a:Nat} (h0:a≠0) (ha:a<q):a∈l:=by
 refine Classical.byContradiction fun hn=>?_
 have h1:(0 :: a :: l).Nodup:=by
  rw [List.nodup_cons,List.nodup_cons]
  refine ⟨?_,hn,T.nd⟩
  intro hm
  rcases List.mem_cons.1 hm with h | h
  . exact h0 h.symm
  . exact T.nz 0 h rfl
 have hq:=H.q1
 have h2:=pigeon q _ h1 (fun b hb=>by
  rcases List.mem_cons.1 hb with rfl | hb
  . omega
  . rcases List.mem_cons.1 hb with rfl | hb
    . exact ha
    . exact T.lt b hb)
 simp [T.len] at h2
 omega
def logGo (l:List Nat) (t:List Nat):Nat->List Nat
 | 0=>t
 | n+1=>(logGo l t n).set (l.getD n 0) n
def logL (l:List Nat) (q:Nat):List Nat:=logGo l (List.replicate q 0) l.length
theorem qdE (l t:List Nat):∀ n,(logGo l t n).length=t.length
 | 0=>rfl
 | n+1=>by simp [logGo,qdE l t n]
theorem logGo_at (l t:List Nat) (hnd:l.Nodup) (hlt:∀ a∈l,a<t.length):∀ n,n<=l.length->∀ i,i<n->(logGo l t n).getD (l.getD i 0) 0=i
 | 0,_,i,hi=>absurd hi (by omega)
 | n + 1,hn,i,hi => by
   by_cases h:i=n
   . subst h
     have hm:l.getD i 0∈l:=by
      have:l.getD i 0=l[i]:=by simp [List.getD,show i<l.length by omega]
      rw [this]
      exact List.getElem_mem _
     have h2:=hlt _ hm
     simp only [logGo,List.getD] at h2 ⊢
     rw [List.getElem?_set_self (by rw [qdE];exact h2)]
     rfl
   . have ih := logGo_at l t hnd hlt n (by omega) i (by omega)
     have hne:l.getD n 0≠l.getD i 0:=by
      have e1:l.getD n 0=l[n]:=by simp [List.getD,show n<l.length by omega]
      have e2:l.getD i 0=l[i]:=by simp [List.getD,show i<l.length by omega]
      rw [e1,e2]
      intro he
      exact List.pairwise_iff_getElem.1 hnd i n (by omega) (by omega) (by omega) he.symm
     show ((logGo l t n).set (l.getD n 0) n).getD (l.getD i 0) 0=i
     generalize l.getD n 0=a at *
     generalize l.getD i 0=b at *
     generalize (logGo l t n)=u at *
     simp only [List.getD] at ih ⊢
     rw [List.getElem?_set_ne hne]
     exact ih
def mulT (l lg:List Nat) (q x y:Nat):Nat:=if x=0\/y=0 then 0 else l.getD ((lg.getD x 0+lg.getD y 0) % (q-1)) 0
def invT (l lg:List Nat) (q x:Nat):Nat:=l.getD ((q-1-lg.getD x 0) % (q-1)) 0
theorem Tab.log (H:Mon q mul) {l:List Nat} (T:Tab q mul l) {a:Nat} (h0:a≠0) (ha:a<q) :
 (logL l q).getD a 0<q-1/\l.getD ((logL l q).getD a 0) 0=a:=by
 have hm:=T.full H h0 ha
 obtain ⟨i,hi,e⟩:=List.mem_iff_getElem.1 hm
 have e2:l.getD i 0=a:=by simp [List.getD,hi,e]
 have:=logGo_at l (List.replicate q 0) T.nd (by simpa using T.lt) l.length (Nat.le_refl _) i hi
 unfold logL
 rw [e2] at this
 rw [this]
 exact ⟨by rw [<- T.len];exact hi,e2⟩
theorem Tab.get {l:List Nat} (T:Tab q mul l):∃ x,1<=x/\x<q/\pw mul x (q-1)=1/\∀ i,i<q-1->l.getD i 0=pw mul x i:=by
 obtain ⟨x,h1,h2,rfl,h3⟩:=T.ex
 exact ⟨x,h1,h2,h3,fun i hi=>by simp [pl,List.getD,hi]⟩
theorem Tab.mul_eq (H:Mon q mul) {l:List Nat} (T:Tab q mul l) {x y:Nat} (hx:x<q) (hy:y<q):mulT l (logL l q) q x y=mul x y:=by
 unfold mulT
 by_cases h:x=0\/y=0
 . rw [if_pos h]
   rcases h with rfl | rfl
   . rw [H.zero]
   . rw [H.comm,H.zero]
 . rw [if_neg h]
   have hx0:x≠0:=fun e=>h (.inl e)
   have hy0:y≠0:=fun e=>h (.inr e)
   obtain ⟨a1,a2⟩:=T.log H hx0 hx
   obtain ⟨b1,b2⟩:=T.log H hy0 hy
   obtain ⟨z,_,_,hz,hg⟩:=T.get
   have hq:=H.q1
   rw [hg _ (Nat.mod_lt _ (by omega)),pw_mod H hz,pw_add H,<- hg _ a1,<- hg _ b1,a2,b2]
theorem Tab.inv (H:Mon q mul) {l:List Nat} (T:Tab q mul l) {x:Nat} (h0:x≠0) (hx:x<q):mul x (invT l (logL l q) q x)=1/\invT l (logL l q) q x<q/\invT l (logL l q) q x≠0:=by
 obtain ⟨a1,a2⟩:=T.log H h0 hx
 obtain ⟨z,_,_,hz,hg⟩:=T.get
 have hq:=H.q1
 have e:invT l (logL l q) q x=pw mul z (q-1-(logL l q).getD x 0):=by
  unfold invT
  rw [hg _ (Nat.mod_lt _ (by omega)),pw_mod H hz]
 rw [e]
 have h1:mul x (pw mul z (q-1-(logL l q).getD x 0))=1:=by
  have hx2:x=pw mul z ((logL l q).getD x 0):=by rw [<- hg _ a1,a2]
  generalize (logL l q).getD x 0=i at *
  rw [hx2,<- pw_add H,show i+(q-1-i)=q-1 by omega,hz]
 refine ⟨h1,pw_lt H z _,fun h=>?_⟩
 rw [h,H.comm,H.zero] at h1
 exact absurd h1 (by omega)
theorem Tab.inv_uniq (H:Mon q mul) {x y z:Nat} (hy:y<q) (hz:z<q) (h1:mul x y=1) (h2:mul x z=1):y=z:=by
 have e1:mul (mul z x) y=y:=by rw [H.comm z x,h2,H.one y hy]
 have e2:mul (mul z x) y=z:=by rw [H.assoc,h1,H.comm,H.one z hz]
 exact e1.symm.trans e2
theorem Tab.nodiv (H:Mon q mul) {l:List Nat} (T:Tab q mul l) {x y:Nat} (hx:x<q) (hy:y<q) (hx0:x≠0) (hy0:y≠0):mul x y≠0:=by
 obtain ⟨a1,a2⟩:=T.log H hx0 hx
 obtain ⟨b1,b2⟩:=T.log H hy0 hy
 obtain ⟨z,_,_,hz,hg⟩:=T.get
 have hq:=H.q1
 intro h0
 have e:mul x y=pw mul z (((logL l q).getD x 0+(logL l q).getD y 0) % (q-1)):=by
  rw [pw_mod H hz,pw_add H,<- hg _ a1,<- hg _ b1,a2,b2]
 have hlt:((logL l q).getD x 0+(logL l q).getD y 0) % (q-1)<q-1:=Nat.mod_lt _ (by omega)
 rw [e,<- hg _ hlt] at h0
 refine T.nz _ ?_ h0
 have:l.getD (((logL l q).getD x 0+(logL l q).getD y 0) % (q-1)) 0=l[((logL l q).getD x 0+(logL l q).getD y 0) % (q-1)]'(by rw [T.len];exact hlt):=by
  rw [List.getD_eq_getElem?_getD,List.getElem?_eq_getElem (by rw [T.len];exact hlt)]
  rfl
 rw [this]
 exact List.getElem_mem _
def invGo (mul:Nat->Nat->Nat) (x:Nat):Nat->Nat->Nat
 | 0,_=>0
 | g+1,y=>if mul x y=1 then y else invGo mul x g (y+1)
def refInv (mul:Nat->Nat->Nat) (q x:Nat):Nat:=invGo mul x (q-1) 1
theorem invGo_spec (H:Mon q mul) {x z:Nat} (hz:z<q) (h:mul x z=1):∀ g y,y<=z->z<y+g->y+g<=q->invGo mul x g y=z
 | 0,_,_,h2,_=>absurd h2 (by omega)
 | g + 1,y,h1,h2,h3 => by
   unfold invGo
   by_cases hc:mul x y=1
   . rw [if_pos hc]
     exact Tab.inv_uniq H (by omega) hz hc h
   . rw [if_neg hc]
     have:y≠z:=fun e=>hc (e ▸ h)
     exact invGo_spec H hz h g (y+1) (by omega) (by omega) (by omega)
theorem refInv_eq (H:Mon q mul) {l:List Nat} (T:Tab q mul l) {x:Nat} (h0:x≠0) (hx:x<q):refInv mul q x=invT l (logL l q) q x:=by
 obtain ⟨h1,h2,h3⟩:=T.inv H h0 hx
 have hq:=H.q1
 exact invGo_spec H h2 h1 (q-1) 1 (by omega) (by omega) (by omega)
end
def mulM (p m:Nat) (md:List Nat) (x y:Nat):Nat:=val p (mulL p m md (digs p m x) (digs p m y))
theorem mulM_dig {p m:Nat} (hp:0<p) (md:List Nat) (x y:Nat):digs p m (mulM p m md x y)=mulL p m md (digs p m x) (digs p m y):=by
 have h:=qaY (m:=m) hp md (digs p m x) (digs p m y)
 have:=qdP hp _ h.2
 rw [h.1] at this
 exact this
theorem F_digs_zero (p m:Nat):F (digs p m 0)=fun _=>0:=by
 have:∀ m,digs p m 0=List.replicate m 0:=by
  intro m
  induction m with
  | zero=>rfl
  | succ m ih=>simp [digs,ih,List.replicate_succ]
 rw [this,F_zero]
theorem digs_zero (p:Nat):∀ m,digs p m 0=List.replicate m 0
 | 0=>rfl
 | m+1=>by simp [digs,digs_zero p m,List.replicate_succ]
theorem val_zero (p:Nat):∀ m,val p (List.replicate m 0)=0
 | 0=>rfl
 | m+1=>by simp [val,val_zero p m,List.replicate_succ]
theorem F_digs_one {p m:Nat} (hp:1<p) (hm:0<m):F (digs p m 1)=un:=by
 obtain ⟨n,rfl⟩:∃ n,m=n+1:=⟨m-1,by omega⟩
 have e:digs p (n+1) 1=1 :: List.replicate n 0:=by
  simp only [digs]
  rw [Nat.mod_eq_of_lt hp,Nat.div_eq_of_lt hp,digs_zero]
 rw [e]
 funext j
 cases j with
 | zero=>rfl
 | succ j=>rw [F_cons,F_zero];rfl
theorem dig_zero_of {p m:Nat} {l:List Nat} (h:Dig p m l) (hc:Cg p (F l) (fun _=>0)):l=List.replicate m 0:=by
 refine F_inj (p:=p) (by simp [h.1]) h.2 ?_ ?_
 . intro d hd
   have hp:0<p:=by
    cases l with
    | nil=>have:=h.1;simp at this;subst this;simp at hd
    | cons a r=>have:=h.2 a (List.mem_cons_self ..);omega
   simp at hd
   omega
 . rw [F_zero]
   exact hc
theorem qaU {p m:Nat} (hp:1<p) (hm:0<m) (md:List Nat):Mon (p ^ m) (mulM p m md) where
 lt x y:=by
  have h:=qaY (m:=m) (by omega:0<p) md (digs p m x) (digs p m y)
  have:=val_lt (by omega:0<p) _ h.2
  rw [h.1] at this
  exact this
 comm x y:=by unfold mulM;rw [mulL_comm (by omega) md _ _ (qaK p m x) (qaK p m y)]
 assoc x y z:=by
  show val p (mulL p m md (digs p m (mulM p m md x y)) (digs p m z))=val p (mulL p m md (digs p m x) (digs p m (mulM p m md y z)))
  rw [mulM_dig (by omega),mulM_dig (by omega),mulL_assoc (by omega) md _ _ _ (qaK p m x) (qaK p m y) (qaK p m z)]
 one x hx:=by
  have h:=qaY (m:=m) (by omega:0<p) md (digs p m 1) (digs p m x)
  have h2:=qcV (by omega:0<p) m x
  have e:mulL p m md (digs p m 1) (digs p m x)=digs p m x:=by
   refine F_inj (p:=p) (h.1.trans h2.1.symm) h.2 h2.2 ?_
   refine (qbN (by omega) md _ _ (qaK p m 1) (qaK p m x)).trans (Cg.of_eq ?_)
   rw [F_digs_one hp hm,mz_un]
   funext j
   by_cases hj:j<m
   . rw [if_pos hj]
   . rw [if_neg hj,qdM (m:=m) (by rw [h2.1];exact Nat.le_refl _) j (by omega)]
  unfold mulM
  rw [e,val_digs (by omega) m x hx]
 zero x:=by
  have h:=qaY (m:=m) (by omega:0<p) md (digs p m 0) (digs p m x)
  have e:mulL p m md (digs p m 0) (digs p m x)=List.replicate m 0:=by
   refine dig_zero_of h ?_
   refine (qbN (by omega) md _ _ (qaK p m 0) (qaK p m x)).trans (Cg.of_eq ?_)
   rw [F_digs_zero]
   exact pol_zero m _ _ m
  unfold mulM
  rw [e,val_zero]
 q1:=Nat.one_lt_pow (by omega) hp
def divRow (p d:Nat) (low:List Nat) (i c:Nat) (r:List Nat):Nat->List Nat
 | 0=>r
 | j+1=>addAt p (divRow p d low i c r j) (i-d+j) ((p-c)*low.getD j 0)
def divGo (p:Nat) (low r:List Nat):Nat->List Nat
 | 0=>r
 | t+1=>(divRow p low.length low (r.length-1-t) ((divGo p low r t).getD (r.length-1-t) 0) (divGo p low r t) low.length).set (r.length-1-t) 0
def dividesM (p:Nat) (low md:List Nat):Bool:=(divGo p low (md++[1]) (md.length+1-low.length)).all (·==0)
def irrM (p:Nat) (md:List Nat):Bool:=(List.range (md.length / 2)).all fun d=>(List.range (p ^ (d+1))).all fun v=>!dividesM p (digs p (d+1) v) md
theorem qdW {p n:Nat} (hp:0<p) (d:Nat) (low:List Nat) (i c:Nat) {r:List Nat} (h:Dig p n r):∀ j,Dig p n (divRow p d low i c r j)
 | 0=>h
 | j+1=>addAt_dig hp (qdW hp d low i c h j) _ _
theorem divGo_dig {p n:Nat} (hp:0<p) (low:List Nat) {r:List Nat} (h:Dig p n r):∀ t,Dig p n (divGo p low r t)
 | 0=>h
 | t + 1 => by
   have h1:=qdW hp low.length low (r.length-1-t) ((divGo p low r t).getD (r.length-1-t) 0) (divGo_dig hp low h t) low.length
   refine ⟨by unfold divGo;rw [List.length_set];exact h1.1,fun d hd=>?_⟩
   rcases List.mem_or_eq_of_mem_set hd with h' | rfl
   . exact h1.2 _ h'
   . exact hp
theorem divRow_ev {p m:Nat} (hp:0<p) (md:Vec) (low:List Nat) (i c:Nat) {n:Nat} {r:List Nat} (hr:Dig p n r) (hd:low.length<=i) (hi:i<n) :
 ∀ j,j<=low.length->Cg p (ev m md (divRow p low.length low i c r j) n) (fun k=>(((p-c:Nat):Int))*shN m md (i-low.length) (pol m md (F low) j un) k+ev m md r n k)
 | 0,_ => by
   apply Cg.of_eq
   funext k
   simp [divRow,pol,qeZ]
 | j + 1,hj => by
   have h1:=ev_addAt (p:=p) (m:=m) md (n:=n) (c:=divRow p low.length low i c r j) (Nat.le_of_eq (qdW hp low.length low i c hr j).1.symm) (i-low.length+j) ((p-c)*low.getD j 0) (by omega)
   have h2:=divRow_ev (m:=m) hp md low i c hr hd hi j (by omega)
   refine Cg.trans h1 (Cg.trans (Cg.lin _ (Cg.refl _ _) h2) (Cg.of_eq ?_))
   funext k
   have e:pol m md (F low) (j+1) un=fun k=>F low j*shN m md j un k+pol m md (F low) j un k:=rfl
   rw [e,qfQ,<- shN_add]
   have e2:F low j=((low.getD j 0:Nat):Int):=rfl
   rw [e2,Int.natCast_mul]
   grind
theorem divRow_at {p:Nat} (d:Nat) (low:List Nat) {i:Nat} (hd:d<=i) (c:Nat) (r:List Nat):∀ j,j<=d->(divRow p d low i c r j).getD i 0=r.getD i 0
 | 0,_=>rfl
 | j + 1,hj => by
   have:=divRow_at (p:=p) d low hd c r j (by omega)
   rw [<- this]
   simp only [divRow,addAt,List.getD]
   rw [List.getElem?_set_ne (by omega)]
theorem F_set0 {r:List Nat} {i:Nat} (hi:i<r.length):F (r.set i 0)=fun j=>(- ((r.getD i 0:Nat):Int))*(if j=i then 1 else 0)+F r j:=by
 funext j
 unfold F
 by_cases hj:j=i
 . subst hj
   rw [if_pos rfl]
   simp [List.getD,hi]
   omega
 . rw [if_neg hj]
   simp only [List.getD]
   rw [List.getElem?_set_ne (by omega)]
   simp
def G (m:Nat) (md:Vec) (low:List Nat):Vec:=fun k=>shN m md low.length un k+pol m md (F low) low.length un k
theorem div_step {p m:Nat} (hp:0<p) (md:Vec) (low:List Nat) (i:Nat) {n:Nat} {r:List Nat} (hr:Dig p n r) (hd:low.length<=i) (hi:i<n) :
 Cg p (ev m md ((divRow p low.length low i (r.getD i 0) r low.length).set i 0) n) (fun k=>(- ((r.getD i 0:Nat):Int))*shN m md (i-low.length) (G m md low) k+ev m md r n k):=by
 have h1:=divRow_ev (m:=m) hp md low i (r.getD i 0) hr hd hi low.length (Nat.le_refl _)
 have hl:=(qdW hp low.length low i (r.getD i 0) hr low.length).1
 have hat:=divRow_at (p:=p) low.length low hd (r.getD i 0) r low.length (Nat.le_refl _)
 have hlt:=getD_lt hp hr i
 generalize hD:divRow p low.length low i (r.getD i 0) r low.length=D at *
 have e1:ev m md (D.set i 0) n=fun k=>(- ((D.getD i 0:Nat):Int))*shN m md i un k+ev m md D n k:=by
  unfold ev
  rw [F_set0 (by omega),qeW,pol_delta m md i un n hi]
 rw [e1,hat]
 refine Cg.trans (Cg.lin _ (Cg.refl _ _) h1) ?_
 have e2:shN m md i un=shN m md (i-low.length) (shN m md low.length un):=by rw [<- shN_add];congr 1;omega
 have e3:G m md low=fun k=>1*shN m md low.length un k+pol m md (F low) low.length un k:=by funext k;simp [G]
 rw [e2,e3,qfQ]
 refine ⟨fun k=>shN m md (i-low.length) (pol m md (F low) low.length un) k,?_⟩
 funext k
 rw [Int.natCast_sub (Nat.le_of_lt hlt)]
 grind
theorem div_all {p m:Nat} (hp:0<p) (md:Vec) (low:List Nat) {r:List Nat} (hr:Dig p (m+1) r) (hd:low.length<=m) (htop:r.getD m 0=1) (hp1:1<p) :
 ∀ t,t<=m+1-low.length->∃ h:Nat->Nat,(∀ k,h k<p)/\(∀ k,m-low.length<k->h k=0)/\(∀ k,k+t<m+1-low.length->h k=0)/\(0<t->h (m-low.length)=1) /\
  Cg p (ev m md (divGo p low r t) (m+1)) (fun j=>(-1)*pol m md (fun k=>(h k:Int)) (m+1-low.length) (G m md low) j+ev m md r (m+1) j)
 | 0,_ => by
   refine ⟨fun _=>0,fun _=>hp,fun _ _=>rfl,fun _ _=>rfl,fun h=>absurd h (by omega),Cg.of_eq ?_⟩
   funext j
   have h0:∀ n,pol m md (fun _=>((0:Nat):Int)) n (G m md low)=fun _=>0:=by
    intro n
    induction n with
    | zero=>rfl
    | succ n ih=>funext j;show ((0:Nat):Int)*_+pol m md (fun _=>((0:Nat):Int)) n (G m md low) j=0;rw [ih];simp
   rw [h0]
   simp [divGo]
 | t + 1,ht => by
   obtain ⟨h,h1,h2,h3,h4,h5⟩:=div_all hp md low hr hd htop hp1 t (by omega)
   have hg:=divGo_dig hp low hr t
   have hi:r.length-1-t=m-t:=by rw [hr.1];omega
   have hs:=div_step (m:=m) hp md low (m-t) hg (by omega) (by omega)
   have hlt:=getD_lt hp hg (m-t)
   have e:divGo p low r (t+1)=(divRow p low.length low (m-t) ((divGo p low r t).getD (m-t) 0) (divGo p low r t) low.length).set (m-t) 0:=by
    show (divRow p low.length low (r.length-1-t) ((divGo p low r t).getD (r.length-1-t) 0) (divGo p low r t) low.length).set (r.length-1-t) 0=_
    rw [hi]
   generalize hc:(divGo p low r t).getD (m-t) 0=c at *
   refine ⟨fun k=>if k=m-t-low.length then c else h k,?_,?_,?_,?_,?_⟩
   . intro k
     show (if k=m-t-low.length then c else h k)<p
     split
     . exact hlt
     . exact h1 k
   . intro k hk
     show (if k=m-t-low.length then c else h k)=0
     rw [if_neg (by omega)]
     exact h2 k hk
   . intro k hk
     show (if k=m-t-low.length then c else h k)=0
     rw [if_neg (by omega)]
     exact h3 k (by omega)
   . intro _
     show (if m-low.length=m-t-low.length then c else h (m-low.length))=1
     by_cases h0:t=0
     . subst h0
       rw [if_pos (by omega),<- hc]
       exact htop
     . rw [if_neg (by omega)]
       exact h4 (by omega)
   . rw [e]
     refine Cg.trans hs (Cg.trans (Cg.lin _ (Cg.refl _ _) h5) (Cg.of_eq ?_))
     have hz:h (m-t-low.length)=0:=h3 _ (by omega)
     have ef:(fun k=>(((if k=m-t-low.length then c else h k):Nat):Int))=fun k=>(c:Int)*(if k=m-t-low.length then 1 else 0)+(fun k=>(h k:Int)) k:=by
      funext k
      by_cases hk:k=m-t-low.length
      . subst hk
        simp [hz]
      . simp [hk]
     rw [ef,qeW,pol_delta m md (m-t-low.length) (G m md low) (m+1-low.length) (by omega)]
     funext j
     grind
theorem ev_zero (m:Nat) (md:Vec) (r:List Nat) (h:r.all (·==0)=true) (n:Nat):ev m md r n=fun _=>0:=by
 have hF:F r=fun _=>0:=by
  funext j
  unfold F
  by_cases hj:j<r.length
  . have : r.getD j 0 = r[j] := by simp [List.getD,hj]
    rw [this]
    have h2:=List.all_eq_true.1 h _ (List.getElem_mem hj)
    simp at h2
    simp [h2]
  . rw [qcL (by omega)]
    rfl
 unfold ev
 rw [hF]
 induction n with
 | zero=>rfl
 | succ n ih=>funext j;simp [pol,ih]
theorem ev_self {m:Nat} (hm:0<m) (md:List Nat) (hmd:md.length=m):ev m (F md) (md++[1]) (m+1)=fun _=>0:=by
 unfold ev
 have e1:∀ k,k<=m->pol m (F md) (F (md++[1])) k un=pol m (F md) (F md) k un:=by
  intro k
  induction k with
  | zero=>intro _;rfl
  | succ k ih =>
    intro hk
    funext j
    simp only [pol,ih (by omega)]
    have:F (md++[1]) k=F md k:=by unfold F;simp only [List.getD];rw [List.getElem?_append_left (by omega)]
    rw [this]
 funext j
 show F (md++[1]) m*shN m (F md) m un j+pol m (F md) (F (md++[1])) m un j=0
 rw [e1 m (Nat.le_refl _),pol_id m (F md) (qdM (by omega)),shN_un_top m (F md) hm]
 have:F (md++[1]) m=1:=by unfold F;simp [List.getD,<- hmd]
 rw [this]
 simp only
 by_cases hj:j<m
 . rw [if_pos hj];omega
 . rw [if_neg hj,qdM (m:=m) (by omega) j (by omega)];rfl
theorem val_ne {p:Nat} (hp:0<p):∀ (l:List Nat) (j:Nat),l.getD j 0≠0->val p l≠0
 | [],j,h=>by simp at h
 | d :: r,0,h => by
   simp [List.getD] at h
   simp only [val]
   omega
 | d :: r,j + 1,h => by
   have:=val_ne hp r j (by simpa [List.getD] using h)
   simp only [val]
   have h2:0<p*val p r:=Nat.mul_pos hp (by omega)
   omega
theorem div_zero {p m:Nat} (hp:1<p) (md low:List Nat) (hmd:Dig p m md) (hlow:∀ d∈low,d<p) (hl1:1<=low.length) (hlm:low.length<m) (h:dividesM p low md=true) :
 ∃ x y,x<p ^ m/\y<p ^ m/\x≠0/\y≠0/\mulM p m md x y=0:=by
 have hm:0<m:=by omega
 have hr:Dig p (m+1) (md++[1]):=by
  refine ⟨by simp [hmd.1],fun d hd=>?_⟩
  rcases List.mem_append.1 hd with h | h
  . exact hmd.2 d h
  . simp at h;omega
 have htop:(md++[1]).getD m 0=1:=by simp [List.getD,<- hmd.1]
 obtain ⟨hq,h1,h2,_,h4,h5⟩:=div_all (m:=m) (by omega) (F md) low hr (by omega) htop hp (m+1-low.length) (Nat.le_refl _)
 unfold dividesM at h
 rw [hmd.1] at h
 rw [ev_zero m (F md) _ h,ev_self hm md hmd.1] at h5
 have h6:Cg p (pol m (F md) (fun k=>(hq k:Int)) (m+1-low.length) (G m (F md) low)) (fun _=>0):=by
  obtain ⟨t,ht⟩:=h5
  refine ⟨t,?_⟩
  funext j
  have:=congrFun ht j
  simp only [Int.add_zero] at this ⊢
  omega
 have ext:∀ n,pol m (F md) (fun k=>(hq k:Int)) (m+1-low.length+n) (G m (F md) low)=pol m (F md) (fun k=>(hq k:Int)) (m+1-low.length) (G m (F md) low):=by
  intro n
  induction n with
  | zero=>rfl
  | succ n ih =>
    funext j
    show (hq (m+1-low.length+n):Int)*_+pol m (F md) (fun k=>(hq k:Int)) (m+1-low.length+n) (G m (F md) low) j=_
    rw [h2 _ (by omega),ih]
    simp
 have h7:Cg p (mz m (F md) (G m (F md) low) (fun k=>(hq k:Int))) (fun _=>0):=by
  have:=ext (low.length-1)
  rw [show m+1-low.length+(low.length-1)=m by omega] at this
  unfold mz
  rw [this]
  exact h6
 have hgl:F (low++[1]++List.replicate (m-1-low.length) 0)=G m (F md) low:=by
  unfold G
  rw [shN_un m (F md) _ hlm,pol_un m (F md) _ _ (by omega)]
  funext j
  unfold F
  by_cases hj:j<low.length
  . have hj2 : ¬ j = low.length := by omega
    simp only [if_neg hj2,if_pos hj,List.getD]
    rw [List.append_assoc,List.getElem?_append_left hj]
    omega
  . by_cases hj2 : j = low.length
    . subst hj2
      simp [List.getD]
    . simp only [if_neg hj2,if_neg hj,List.getD]
      rw [List.getElem?_append_right (by simp;omega)]
      simp [List.getElem?_replicate]
      split <;> simp
 have hgd:Dig p m (low++[1]++List.replicate (m-1-low.length) 0):=by
  refine ⟨by simp;omega,fun d hd=>?_⟩
  simp at hd
  rcases hd with h | h | h
  . exact hlow d h
  . omega
  . omega
 have hhd:Dig p m ((List.range m).map hq):=by
  refine ⟨by simp,fun d hd=>?_⟩
  obtain ⟨k,_,rfl⟩:=List.mem_map.1 hd
  exact h1 k
 have hhl:F ((List.range m).map hq)=fun k=>(hq k:Int):=by
  funext j
  unfold F
  by_cases hj:j<m
  . simp [List.getD,hj]
  . rw [qcL (by simp;omega),h2 j (by omega)]
 generalize low++[1]++List.replicate (m-1-low.length) 0=gl at hgl hgd
 have hp0:0<p:=by omega
 refine ⟨val p gl,val p ((List.range m).map hq),?_,?_,?_,?_,?_⟩
 . have := val_lt hp0 gl hgd.2
   rwa [hgd.1] at this
 . have := val_lt hp0 _ hhd.2
   rwa [hhd.1] at this
 . apply val_ne hp0 gl low.length
   intro h0
   have:F gl low.length=0:=by unfold F;rw [h0];rfl
   rw [hgl] at this
   unfold G at this
   rw [shN_un m (F md) _ hlm,pol_un m (F md) _ _ (by omega)] at this
   simp at this
 . apply val_ne hp0 _ (m - low.length)
   have:=h4 (by omega)
   simp [List.getD,show m-low.length<m by omega,this]
 . unfold mulM
   have e1:=qdP hp0 gl hgd.2
   have e2:=qdP hp0 _ hhd.2
   rw [hgd.1] at e1
   rw [hhd.1] at e2
   rw [e1,e2]
   have hd:=qaY (m:=m) hp0 md gl ((List.range m).map hq)
   have:=dig_zero_of hd (Cg.trans (qbN hp0 md _ _ hgd.1 hhd.1) (by rw [hgl,hhl];exact h7))
   rw [this,val_zero]
theorem irr_of_tab {p m:Nat} (hp:1<p) (md:List Nat) (hmd:Dig p m md) {l:List Nat} (T:Tab (p ^ m) (mulM p m md) l):irrM p md=true:=by
 refine Classical.byContradiction fun hn=>?_
 rw [Bool.not_eq_true] at hn
 unfold irrM at hn
 rw [List.all_eq_false] at hn
 obtain ⟨d,hd,hn⟩:=hn
 rw [Bool.not_eq_true,List.all_eq_false] at hn
 obtain ⟨v,hv,hn⟩:=hn
 simp at hn hd
 have hm1:=hmd.1
 by_cases hm:0<m
 . obtain ⟨x,y,hx,hy,hx0,hy0,hz⟩ := div_zero hp md (digs p (d + 1) v) hmd (qeQ (by omega) _ _) (by rw [qaK];omega) (by rw [qaK];omega) hn
   exact T.nodiv (qaU hp hm md) hx hy hx0 hy0 hz
 . omega
end Go.Proofs.YtlmglaonldlanaaGreat.Pln
namespace Go.Proofs.YtlmglaonldlanaaGreat.Pln
def pwF (mul:Nat->Nat->Nat) (x:Nat):Nat->Nat->Nat
 | 0,_=>1
 | g+1,n=>if n=0 then 1 else if n % 2=1 then mul (mul (pwF mul x g (n / 2)) (pwF mul x g (n / 2))) x else mul (pwF mul x g (n / 2)) (pwF mul x g (n / 2))
def primT (mul:Nat->Nat->Nat) (n:Nat) (rs:List Nat) (x:Nat):Bool:=pwF mul x 9 n==1 && rs.all fun r=>pwF mul x 9 (n / r) != 1
def rsOK (n:Nat) (rs:List Nat):Bool:=(List.range n).all fun d=>d==0 || n % d != 0 || rs.any fun r=>n / r % d==0
section
variable {q:Nat} {mul:Nat->Nat->Nat}
theorem pwF_eq (H:Mon q mul) (x:Nat):∀ g n,n<2 ^ g->pwF mul x g n=pw mul x n
 | 0,n,h => by
   have:n=0:=by simpa using h
   subst this
   rfl
 | g + 1,n,h => by
   have ih:=pwF_eq H x g (n / 2) (by rw [Nat.pow_succ] at h;omega)
   unfold pwF
   rw [ih,<- pw_add H]
   by_cases h0:n=0
   . rw [if_pos h0,h0]
     rfl
   . rw [if_neg h0]
     by_cases h1:n % 2=1
     . rw [if_pos h1]
       show pw mul x (n / 2+n / 2+1)=_
       congr 1
       omega
     . rw [if_neg h1]
       congr 1
       omega
theorem low_order (H:Mon q mul) {x n:Nat} (hn:pw mul x n=1):∀ i,0<i->i<n->pw mul x i=1->∃ d,0<d/\d<n/\n % d=0/\pw mul x d=1:=by
 intro i
 induction i using Nat.strongRecOn with
 | _ i ih =>
   intro h0 h1 h2
   by_cases h3:n % i=0
   . exact ⟨i,h0,h1,h3,h2⟩
   . have h4 : n % i < i := Nat.mod_lt _ h0
     exact ih (n % i) h4 (by omega) (by omega) (by rw [pw_mod H h2,hn])
theorem prim_of (H:Mon q mul) {rs:List Nat} (hrs:rsOK (q-1) rs=true) (hq:q<=256) {x:Nat} (h:primT mul (q-1) rs x=true):Prim mul q x:=by
 unfold primT at h
 rw [Bool.and_eq_true] at h
 obtain ⟨h1,h2⟩:=h
 rw [pwF_eq H x 9 _ (by omega)] at h1
 have h1':pw mul x (q-1)=1:=by simpa using h1
 refine ⟨h1',fun i h0 hi he=>?_⟩
 obtain ⟨d,d0,d1,d2,d3⟩:=low_order H h1' i h0 hi he
 unfold rsOK at hrs
 have h3:=List.all_eq_true.1 hrs d (List.mem_range.2 d1)
 simp only [Bool.or_eq_true,beq_iff_eq,bne_iff_ne,ne_eq] at h3
 rcases h3 with (h3 | h3) | h3
 . omega
 . exact h3 d2
 . obtain ⟨r,hr,h4⟩ := List.any_eq_true.1 h3
   have h5:=List.all_eq_true.1 h2 r hr
   have h6:(q-1) / r<2 ^ 9:=by
    have:=Nat.div_le_self (q-1) r
    omega
   rw [pwF_eq H x 9 _ h6] at h5
   have h7:(q-1) / r % d=0:=by simpa using h4
   have h8:=pw_mod H d3 ((q-1) / r)
   rw [h7] at h8
   simp at h5
   exact h5 h8.symm
end
def force {α:Type} (n:Nat) (f:Nat->α):α:=Nat.rec (f 0) (fun k _=>f (k+1)) n
theorem force_eq {α:Type} (n:Nat) (f:Nat->α):force n f=f n:=by cases n <;> rfl
def fl {α:Type}:List Nat->(List Nat->α)->α
 | [],k=>k []
 | x :: r,k=>force x fun y=>fl r fun s=>k (y :: s)
theorem fl_eq {α:Type}:∀ (l:List Nat) (k:List Nat->α),fl l k=k l
 | [],_=>rfl
 | x :: r,k=>by simp only [fl,force_eq,fl_eq r]
def mulLS {α:Type} (p m:Nat) (md a:List Nat):List Nat->(List Nat->α)->α
 | [],k=>k (List.replicate m 0)
 | x :: r,k=>mulLS p m md a r fun out=>fl (stepM p m md a x out) k
theorem mulLS_eq {α:Type} (p m:Nat) (md a:List Nat):∀ (b:List Nat) (k:List Nat->α),mulLS p m md a b k=k (mulL p m md a b)
 | [],_=>rfl
 | x :: r,k=>by simp only [mulLS,mulLS_eq p m md a r,fl_eq];rfl
def mulMS {α:Type} (p m:Nat) (md:List Nat) (x y:Nat) (k:Nat->α):α:=fl (digs p m x) fun a=>fl (digs p m y) fun b=>mulLS p m md a b fun l=>force (val p l) k
theorem mulMS_eq {α:Type} (p m:Nat) (md:List Nat) (x y:Nat) (k:Nat->α):mulMS p m md x y k=k (mulM p m md x y):=by
 unfold mulMS mulM
 rw [fl_eq,fl_eq,mulLS_eq,force_eq]
def pwS {α:Type} (p m:Nat) (md:List Nat) (x:Nat):Nat->Nat->(Nat->α)->α
 | 0,_,k=>k 1
 | g+1,n,k=>if n=0 then k 1 else force (n / 2) fun h=>pwS p m md x g h fun y=>mulMS p m md y y fun s=>if n % 2=1 then mulMS p m md s x k else k s
theorem pwS_eq {α:Type} (p m:Nat) (md:List Nat) (x:Nat):∀ (g n:Nat) (k:Nat->α),pwS p m md x g n k=k (pwF (mulM p m md) x g n)
 | 0,_,_=>rfl
 | g + 1,n,k => by
   unfold pwS pwF
   by_cases h0:n=0
   . rw [if_pos h0,if_pos h0]
   . rw [if_neg h0,if_neg h0,force_eq,pwS_eq p m md x g,mulMS_eq]
     by_cases h1:n % 2=1
     . rw [if_pos h1,if_pos h1,mulMS_eq]
     . rw [if_neg h1,if_neg h1]
def primS (p m:Nat) (md:List Nat) (n:Nat) (rs:List Nat) (x:Nat):Bool:=pwS p m md x 9 n (·==1) && rs.all fun r=>force (n / r) fun e=>pwS p m md x 9 e (· != 1)
theorem primS_eq (p m:Nat) (md:List Nat) (n:Nat) (rs:List Nat) (x:Nat):primS p m md n rs x=primT (mulM p m md) n rs x:=by
 unfold primS primT
 simp only [force_eq,pwS_eq]
def divRowS {α:Type} (p d:Nat) (low:List Nat) (i c:Nat) (r:List Nat):Nat->(List Nat->α)->α
 | 0,k=>k r
 | j+1,k=>divRowS p d low i c r j fun s=>fl (addAt p s (i-d+j) ((p-c)*low.getD j 0)) k
theorem divRowS_eq {α:Type} (p d:Nat) (low:List Nat) (i c:Nat) (r:List Nat):∀ (j:Nat) (k:List Nat->α),divRowS p d low i c r j k=k (divRow p d low i c r j)
 | 0,_=>rfl
 | j+1,k=>by simp only [divRowS,divRowS_eq p d low i c r j,fl_eq];rfl
def divGoS {α:Type} (p:Nat) (low r:List Nat):Nat->(List Nat->α)->α
 | 0,k=>k r
 | t+1,k=>divGoS p low r t fun s=>force (r.length-1-t) fun i=>force (s.getD i 0) fun c=>divRowS p low.length low i c s low.length fun u=>fl (u.set i 0) k
theorem divGoS_eq {α:Type} (p:Nat) (low r:List Nat):∀ (t:Nat) (k:List Nat->α),divGoS p low r t k=k (divGo p low r t)
 | 0,_=>rfl
 | t+1,k=>by simp only [divGoS,divGoS_eq p low r t,fl_eq,force_eq,divRowS_eq];rfl
def okV (p m:Nat) (rs:List Nat) (v d w:Nat):Bool :=
 fl (digs p m v) fun md=>if d=0 then w != 0 && Nat.blt w (p ^ m) && primS p m md (p ^ m-1) rs w
  else Nat.ble (2*d) m && Nat.blt w (p ^ d) && fl (digs p d w) fun low=>divGoS p low (md++[1]) (m+1-d) fun r=>r.all (·==0)
def chkV (p m:Nat) (rs:List Nat):Nat->List (Nat × Nat)->Bool
 | v,[]=>v==p ^ m
 | v,e :: r=>okV p m rs v e.1 e.2 && chkV p m rs (v+1) r
theorem okV_spec {p m:Nat} (hp:1<p) (hm:0<m) (hq:p ^ m<=256) {rs:List Nat} (hrs:rsOK (p ^ m-1) rs=true) {v d w:Nat} (h:okV p m rs v d w=true) (hi:irrM p (digs p m v)=true):genM (mulM p m (digs p m v)) (p ^ m)≠[]:=by
 unfold okV at h
 rw [fl_eq] at h
 by_cases hd:d=0
 . rw [if_pos hd,primS_eq] at h
   simp only [Bool.and_eq_true,bne_iff_ne,ne_eq,Nat.blt_eq] at h
   have H:=qaU hp hm (digs p m v)
   exact genM_some H (by omega) h.1.2 (prim_of H hrs hq h.2)
 . rw [if_neg hd,fl_eq,divGoS_eq] at h
   simp only [Bool.and_eq_true,Nat.blt_eq,Nat.ble_eq] at h
   obtain ⟨⟨h1,h2⟩,h3⟩:=h
   exfalso
   have hdv:dividesM p (digs p d w) (digs p m v)=true:=by
    unfold dividesM
    rw [qaK,qaK]
    exact h3
   unfold irrM at hi
   have h4:=List.all_eq_true.1 hi (d-1) (List.mem_range.2 (by rw [qaK];omega))
   rw [show d-1+1=d by omega] at h4
   have h5:=List.all_eq_true.1 h4 w (List.mem_range.2 h2)
   rw [hdv] at h5
   cases h5
theorem chkV_spec {p m:Nat} {rs:List Nat}:∀ (t:List (Nat × Nat)) (v u:Nat),chkV p m rs v t=true->v<=u->u<p ^ m->∃ d w,okV p m rs u d w=true
 | [],v,u,h,h1,h2 => by
   have:v=p ^ m:=by simpa [chkV] using h
   omega
 | e :: r,v,u,h,h1,h2 => by
   unfold chkV at h
   rw [Bool.and_eq_true] at h
   by_cases hv:v=u
   . subst hv
     exact ⟨_,_,h.1⟩
   . exact chkV_spec r (v+1) u h.2 (by omega) h2
theorem qcH {p m:Nat} (hp:1<p) (hm:0<m) (hq:p ^ m<=256) {rs:List Nat} {t:List (Nat × Nat)} (hrs:rsOK (p ^ m-1) rs=true) (hf:chkV p m rs 0 t=true) {md:List Nat} (hmd:Dig p m md):(genM (mulM p m md) (p ^ m)≠[]) ↔ irrM p md=true:=by
 constructor
 . intro h
   exact irr_of_tab hp md hmd (genM_tab (qaU hp hm md) h)
 . intro h
   have hp0:0<p:=by omega
   have hv:=val_lt hp0 md hmd.2
   have e:=qdP hp0 md hmd.2
   rw [hmd.1] at hv e
   obtain ⟨d,w,hok⟩:=chkV_spec t 0 (val p md) hf (Nat.zero_le _) hv
   have:=okV_spec hp hm hq hrs hok (by rw [e];exact h)
   rw [e] at this
   exact this
def primeB (n:Nat):Bool:=(List.range n).all fun d=>Nat.blt d 2 || n % d != 0
def divsOf (n:Nat):List Nat:=(List.range (n+1)).filter fun r=>Nat.ble 2 r && n % r==0 && primeB r
def okP (p x:Nat):Bool:=x != 0 && Nat.blt x p && fl (divsOf (p-1)) fun rs=>rsOK (p-1) rs && primS p 1 [0] (p-1) rs x
def chkP:List (Nat × Nat)->Bool:=fun t=>t.all fun e=>okP e.1 e.2
theorem okP_spec {p x:Nat} (hq:p<=256) (h:okP p x=true):genM (mulM p 1 [0]) p≠[]:=by
 unfold okP at h
 rw [fl_eq,primS_eq] at h
 simp only [Bool.and_eq_true,bne_iff_ne,ne_eq,Nat.blt_eq] at h
 have H:=qaU (p:=p) (m:=1) (by omega) (by omega) [0]
 rw [Nat.pow_one] at H
 exact genM_some H (by omega) h.1.2 (prim_of H h.2.1 hq h.2.2)
set_option maxRecDepth 100000
theorem ok_2_2:chkV 2 2 [3] 0 [(1,0),(1,1),(1,0),(0,2)]=true:=by decide +kernel
theorem ok_2_3:chkV 2 3 [7] 0 [(1,0),(1,1),(1,0),(0,2),(1,0),(0,2),(1,0),(1,1)]=true:=by decide +kernel
theorem ok_2_4:chkV 2 4 [3,5] 0 [(1,0),(1,1),(1,0),(0,2),(1,0),(2,3),(1,0),(1,1),(1,0),(0,2),(1,0),(1,1),(1,0),(1,1),(1,0),(0,3)]=true:=by decide +kernel
theorem ok_2_5:chkV 2 5 [31] 0 [(1,0),(1,1),(1,0),(2,3),(1,0),(0,2),(1,0),(1,1),(1,0),(0,2),(1,0),(1,1),(1,0),(1,1),(1,0),(0,2),(1,0),(2,3),(1,0),(1,1),(1,0),(1,1),(1,0),(0,2),(1,0),(1,1),(1,0),(0,2),(1,0),(0,2),(1,0),(1,1)]=true:=by decide +kernel
theorem ok_2_6:chkV 2 6 [3,7] 0 [(1,0),(1,1),(1,0),(0,2),(1,0),(3,3),(1,0),(1,1),(1,0),(0,3),(1,0),(1,1),(1,0),(1,1),(1,0),(2,3),(1,0),(3,5),(1,0),(1,1),(1,0),(1,1),(1,0),(0,3),(1,0),(1,1),(1,0),(0,2),(1,0),(2,3),(1,0),(1,1),(1,0),(0,2),(1,0),(1,1),(1,0),(1,1),(1,0),(0,2),(1,0),(1,1),(1,0),(2,3),(1,0),(0,2),(1,0),(1,1),(1,0),(1,1),(1,0),(0,2),(1,0),(0,3),(1,0),(1,1),(1,0),(2,3),(1,0),(1,1),(1,0),(1,1),(1,0),(3,3)]=true:=by decide +kernel
theorem ok_2_7:chkV 2 7 [127] 0 [(1,0),(1,1),(1,0),(0,2),(1,0),(2,3),(1,0),(1,1),(1,0),(0,2),(1,0),(1,1),(1,0),(1,1),(1,0),(0,2),(1,0),(0,2),(1,0),(1,1),(1,0),(1,1),(1,0),(2,3),(1,0),(1,1),(1,0),(3,5),(1,0),(0,2),(1,0),(1,1),(1,0),(2,3),(1,0),(1,1),(1,0),(1,1),(1,0),(0,2),(1,0),(1,1),(1,0),(0,2),(1,0),(3,3),(1,0),(1,1),(1,0),(1,1),(1,0),(2,3),(1,0),(3,5),(1,0),(1,1),(1,0),(0,2),(1,0),(1,1),(1,0),(1,1),(1,0),(0,2),(1,0),(0,2),(1,0),(1,1),(1,0),(1,1),(1,0),(3,5),(1,0),(1,1),(1,0),(0,2),(1,0),(2,3),(1,0),(1,1),(1,0),(1,1),(1,0),(0,2),(1,0),(0,2),(1,0),(1,1),(1,0),(3,3),(1,0),(1,1),(1,0),(1,1),(1,0),(2,3),(1,0),(1,1),(1,0),(3,3),(1,0),(0,2),(1,0),(1,1),(1,0),(2,3),(1,0),(1,1),(1,0),(1,1),(1,0),(0,2),(1,0),(0,2),(1,0),(1,1),(1,0),(1,1),(1,0),(0,2),(1,0),(1,1),(1,0),(2,3),(1,0),(0,2),(1,0),(1,1)]=true:=by decide +kernel
theorem ok_2_8:chkV 2 8 [3,5,17] 0 [(1,0),(1,1),(1,0),(2,3),(1,0),(4,3),(1,0),(1,1),(1,0),(3,3),(1,0),(1,1),(1,0),(1,1),(1,0),(3,5),(1,0),(2,3),(1,0),(1,1),(1,0),(1,1),(1,0),(4,9),(1,0),(1,1),(1,0),(0,3),(1,0),(0,2),(1,0),(1,1),(1,0),(3,5),(1,0),(1,1),(1,0),(1,1),(1,0),(2,3),(1,0),(1,1),(1,0),(0,2),(1,0),(0,2),(1,0),(1,1),(1,0),(1,1),(1,0),(3,3),(1,0),(2,3),(1,0),(1,1),(1,0),(0,3),(1,0),(1,1),(1,0),(1,1),(1,0),(0,3),(1,0),(4,9),(1,0),(1,1),(1,0),(1,1),(1,0),(3,3),(1,0),(1,1),(1,0),(2,3),(1,0),(0,2),(1,0),(1,1),(1,0),(1,1),(1,0),(3,5),(1,0),(4,15),(1,0),(1,1),(1,0),(2,3),(1,0),(1,1),(1,0),(1,1),(1,0),(0,2),(1,0),(1,1),(1,0),(0,2),(1,0),(0,2),(1,0),(1,1),(1,0),(0,2),(1,0),(1,1),(1,0),(1,1),(1,0),(2,3),(1,0),(0,2),(1,0),(1,1),(1,0),(1,1),(1,0),(0,3),(1,0),(1,1),(1,0),(0,9),(1,0),(2,3),(1,0),(1,1),(1,0),(2,3),(1,0),(1,1),(1,0),(1,1),(1,0),(0,2),(1,0),(1,1),(1,0),(0,6),(1,0),(0,2),(1,0),(1,1),(1,0),(1,1),(1,0),(2,3),(1,0),(3,3),(1,0),(1,1),(1,0),(3,5),(1,0),(1,1),(1,0),(1,1),(1,0),(0,3),(1,0),(1,1),(1,0),(0,3),(1,0),(2,3),(1,0),(1,1),(1,0),(0,2),(1,0),(1,1),(1,0),(1,1),(1,0),(3,3),(1,0),(0,6),(1,0),(1,1),(1,0),(1,1),(1,0),(2,3),(1,0),(1,1),(1,0),(4,3),(1,0),(0,7),(1,0),(1,1),(1,0),(1,1),(1,0),(0,2),(1,0),(3,5),(1,0),(1,1),(1,0),(2,3),(1,0),(1,1),(1,0),(1,1),(1,0),(0,2),(1,0),(4,3),(1,0),(1,1),(1,0),(1,1),(1,0),(0,7),(1,0),(1,1),(1,0),(2,3),(1,0),(0,6),(1,0),(1,1),(1,0),(3,3),(1,0),(1,1),(1,0),(1,1),(1,0),(0,2),(1,0),(1,1),(1,0),(3,5),(1,0),(2,3),(1,0),(1,1),(1,0),(1,1),(1,0),(0,6),(1,0),(0,2),(1,0),(1,1),(1,0),(0,3),(1,0),(1,1),(1,0),(1,1),(1,0),(2,3)]=true:=by decide +kernel
theorem ok_3_2:chkV 3 2 [2] 0 [(1,0),(0,4),(1,1),(1,0),(1,2),(0,3),(1,0),(1,1),(0,3)]=true:=by decide +kernel
theorem ok_3_3:chkV 3 3 [2,13] 0 [(1,0),(1,1),(1,2),(1,0),(1,2),(1,1),(1,0),(0,3),(0,6),(1,0),(1,2),(0,5),(1,0),(1,1),(0,4),(1,0),(0,3),(1,1),(1,0),(0,3),(1,1),(1,0),(0,3),(1,2),(1,0),(1,1),(0,4)]=true:=by decide +kernel
theorem ok_3_4:chkV 3 4 [2,5] 0 [(1,0),(2,5),(1,1),(1,0),(1,2),(0,3),(1,0),(1,1),(0,3),(1,0),(1,1),(0,12),(1,0),(0,4),(1,1),(1,0),(0,5),(1,2),(1,0),(2,1),(0,4),(1,0),(1,1),(1,2),(1,0),(1,2),(1,1),(1,0),(1,2),(0,3),(1,0),(1,1),(2,1),(1,0),(0,4),(1,1),(1,0),(0,10),(1,1),(1,0),(0,5),(1,2),(1,0),(1,1),(0,3),(1,0),(1,1),(1,2),(1,0),(1,2),(1,1),(1,0),(2,8),(0,3),(1,0),(1,1),(0,3),(1,0),(0,4),(1,1),(1,0),(1,2),(2,1),(1,0),(0,10),(1,2),(1,0),(1,1),(0,3),(1,0),(0,4),(1,1),(1,0),(1,2),(1,1),(1,0),(2,5),(0,3),(1,0),(1,1),(1,2)]=true:=by decide +kernel
theorem ok_3_5:chkV 3 5 [2,11] 0 [(1,0),(1,1),(1,2),(1,0),(1,2),(1,1),(1,0),(0,3),(0,6),(1,0),(1,2),(2,8),(1,0),(1,1),(0,4),(1,0),(2,1),(1,1),(1,0),(2,5),(1,1),(1,0),(0,3),(1,2),(1,0),(1,1),(2,1),(1,0),(1,2),(1,1),(1,0),(0,3),(0,6),(1,0),(1,1),(1,2),(1,0),(1,1),(0,4),(1,0),(2,8),(1,1),(1,0),(1,2),(0,6),(1,0),(0,3),(1,2),(1,0),(1,1),(2,5),(1,0),(0,3),(1,1),(1,0),(2,8),(2,5),(1,0),(1,1),(1,2),(1,0),(1,2),(1,1),(1,0),(0,3),(1,1),(1,0),(1,2),(0,5),(1,0),(1,1),(0,4),(1,0),(1,1),(0,4),(1,0),(0,3),(1,1),(1,0),(0,4),(1,2),(1,0),(1,2),(0,5),(1,0),(1,1),(0,4),(1,0),(0,3),(1,1),(1,0),(0,3),(1,1),(1,0),(0,3),(1,2),(1,0),(1,1),(0,4),(1,0),(1,1),(1,2),(1,0),(1,2),(1,1),(1,0),(2,1),(2,8),(1,0),(1,1),(2,1),(1,0),(0,3),(1,1),(1,0),(1,2),(2,5),(1,0),(2,5),(1,2),(1,0),(1,1),(2,8),(1,0),(0,3),(1,1),(1,0),(1,2),(1,1),(1,0),(0,3),(0,6),(1,0),(1,1),(1,2),(1,0),(0,3),(1,1),(1,0),(1,2),(2,1),(1,0),(1,1),(0,6),(1,0),(1,1),(0,4),(1,0),(0,3),(1,1),(1,0),(2,8),(1,2),(1,0),(0,3),(0,6),(1,0),(1,1),(1,2),(1,0),(1,2),(1,1),(1,0),(0,3),(1,1),(1,0),(0,3),(1,2),(1,0),(1,1),(0,5),(1,0),(1,1),(1,2),(1,0),(1,2),(1,1),(1,0),(2,5),(2,1),(1,0),(1,2),(0,5),(1,0),(1,1),(0,4),(1,0),(0,3),(1,1),(1,0),(2,1),(1,2),(1,0),(1,1),(0,4),(1,0),(2,8),(1,1),(1,0),(1,2),(1,1),(1,0),(0,3),(0,6),(1,0),(1,1),(1,2),(1,0),(1,1),(2,8),(1,0),(2,5),(1,1),(1,0),(1,2),(0,5),(1,0),(1,1),(0,4),(1,0),(2,1),(1,1),(1,0),(0,3),(1,2),(1,0),(0,3),(0,6),(1,0),(1,1),(1,2),(1,0),(1,2),(1,1),(1,0),(0,7),(1,1),(1,0),(1,2),(0,5),(1,0),(1,1),(2,5)]=true:=by decide +kernel
theorem ok_5_2:chkV 5 2 [2,3] 0 [(1,0),(1,2),(0,6),(0,7),(1,1),(1,0),(0,7),(0,5),(1,2),(1,3),(1,0),(1,1),(1,3),(0,5),(0,8),(1,0),(1,4),(1,1),(0,5),(0,6),(1,0),(0,6),(0,5),(1,1),(1,2)]=true:=by decide +kernel
theorem ok_5_3:chkV 5 3 [2,31] 0 [(1,0),(1,1),(1,3),(1,2),(1,4),(1,0),(0,9),(1,1),(1,4),(0,6),(1,0),(0,6),(1,2),(1,1),(0,7),(1,0),(1,3),(0,5),(0,5),(1,1),(1,0),(1,2),(0,5),(0,5),(1,3),(1,0),(0,7),(0,5),(1,3),(1,2),(1,0),(1,1),(1,4),(0,5),(0,6),(1,0),(1,4),(1,1),(1,2),(1,3),(1,0),(0,6),(1,3),(1,1),(0,8),(1,0),(0,6),(1,2),(0,5),(1,1),(1,0),(0,6),(1,4),(0,5),(1,1),(1,0),(1,4),(1,2),(0,5),(0,7),(1,0),(1,1),(0,5),(0,5),(1,2),(1,0),(1,2),(1,1),(1,3),(1,4),(1,0),(1,3),(0,5),(1,1),(0,8),(1,0),(1,2),(0,5),(1,1),(0,7),(1,0),(0,6),(0,5),(1,2),(1,1),(1,0),(1,3),(0,5),(0,5),(1,4),(1,0),(1,1),(1,2),(1,4),(1,3),(1,0),(0,7),(1,1),(0,5),(1,2),(1,0),(1,3),(1,1),(0,5),(0,6),(1,0),(0,6),(0,5),(1,1),(1,2),(1,0),(1,2),(1,3),(1,4),(1,1),(1,0),(0,7),(1,4),(1,2),(0,9),(1,0),(1,1),(0,5),(1,3),(0,6)]=true:=by decide +kernel
theorem ok_7_2:chkV 7 2 [2,3] 0 [(1,0),(0,9),(0,8),(1,2),(0,8),(1,3),(1,1),(1,0),(1,3),(1,4),(0,7),(0,10),(1,2),(0,10),(1,0),(1,1),(0,10),(0,7),(1,3),(0,7),(1,4),(1,0),(0,11),(1,1),(1,4),(1,5),(0,7),(0,11),(1,0),(0,8),(1,5),(1,1),(1,2),(0,7),(0,8),(1,0),(1,6),(0,8),(0,7),(1,1),(0,7),(1,2),(1,0),(1,2),(1,3),(0,7),(0,9),(1,1),(0,9)]=true:=by decide +kernel
theorem ok_11_2:chkV 11 2 [2,3,5] 0 [(1,0),(0,15),(1,3),(0,13),(0,14),(0,12),(1,4),(1,2),(1,5),(0,13),(1,1),(1,0),(0,15),(1,5),(1,6),(0,13),(1,3),(0,13),(0,11),(0,11),(1,2),(1,4),(1,0),(1,1),(0,16),(1,4),(0,14),(0,15),(0,11),(1,5),(1,3),(1,6),(0,14),(1,0),(1,5),(1,1),(0,16),(1,6),(1,7),(0,11),(1,4),(0,11),(0,12),(0,12),(1,0),(1,7),(0,11),(1,1),(1,2),(0,17),(1,5),(0,11),(0,16),(0,12),(1,6),(1,0),(0,12),(0,11),(0,13),(1,1),(1,6),(1,2),(0,17),(1,7),(1,8),(0,12),(1,0),(0,12),(0,11),(0,13),(1,7),(1,1),(1,8),(0,12),(1,2),(1,3),(0,18),(1,0),(1,3),(0,11),(1,8),(1,9),(0,13),(1,1),(0,11),(0,12),(0,14),(1,2),(1,0),(1,2),(1,9),(0,13),(1,3),(1,4),(0,11),(1,1),(0,11),(0,12),(0,14),(1,0),(1,10),(0,14),(1,2),(0,12),(0,13),(0,11),(1,3),(1,1),(1,4),(0,12),(1,0),(0,14),(1,4),(1,5),(0,12),(1,2),(0,12),(0,11),(0,11),(1,1),(1,3)]=true:=by decide +kernel
theorem ok_13_2:chkV 13 2 [2,3,7] 0 [(1,0),(1,5),(0,15),(1,6),(1,3),(0,14),(0,14),(0,15),(0,17),(1,2),(1,4),(0,15),(1,1),(1,0),(1,4),(0,13),(0,17),(0,15),(0,15),(1,5),(1,3),(0,17),(1,6),(1,7),(1,2),(0,17),(1,0),(1,1),(1,6),(0,16),(1,7),(1,4),(0,13),(0,13),(0,16),(0,18),(1,3),(1,5),(0,16),(1,0),(0,18),(1,1),(1,5),(0,14),(0,18),(0,13),(0,13),(1,6),(1,4),(0,18),(1,7),(1,8),(1,0),(1,6),(0,13),(1,1),(1,2),(1,7),(0,13),(1,8),(1,5),(0,14),(0,14),(0,13),(0,19),(1,0),(0,19),(1,8),(1,9),(1,1),(0,19),(1,2),(1,6),(0,15),(0,19),(0,14),(0,13),(1,7),(1,0),(0,15),(0,13),(0,14),(0,20),(1,1),(1,7),(0,13),(1,2),(1,3),(1,8),(0,13),(1,9),(1,0),(0,16),(0,13),(0,15),(0,14),(1,8),(1,1),(0,13),(1,9),(1,10),(1,2),(0,13),(1,3),(1,0),(0,14),(1,3),(1,4),(1,9),(0,14),(1,10),(1,1),(0,16),(0,14),(0,15),(0,13),(1,2),(1,0),(1,2),(0,13),(1,10),(1,11),(1,3),(0,13),(1,4),(1,1),(0,17),(0,14),(0,13),(0,15),(1,0),(0,15),(1,11),(1,2),(0,17),(0,15),(0,13),(0,13),(1,3),(1,1),(0,15),(1,4),(1,5),(1,0),(1,12),(1,4),(0,14),(1,5),(1,2),(0,13),(0,13),(0,14),(0,16),(1,1),(1,3),(0,14),(1,0),(1,3),(0,13),(0,16),(0,14),(0,14),(1,4),(1,2),(0,16),(1,5),(1,6),(1,1),(0,16)]=true:=by decide +kernel
theorem ok_primes:chkP [(2,1),(3,2),(5,2),(7,3),(11,2),(13,2),(17,3),(19,2),(23,5),(29,2),(31,3),(37,2),(41,6),(43,3),(47,5),(53,2),(59,2),(61,2),(67,2),(71,7),(73,5),(79,3),(83,2),(89,3),(97,5),(101,2),(103,5),(107,2),(109,6),(113,3),(127,3),(131,2),(137,3),(139,2),(149,2),(151,6),(157,5),(163,2),(167,5),(173,2),(179,2),(181,2),(191,19),(193,5),(197,2),(199,3),(211,2),(223,3),(227,2),(229,6),(233,3),(239,7),(241,7),(251,6)]=true:=by decide +kernel
theorem primes_are:((List.range 257).all fun p=>!(Nat.ble 2 p && primeB p) || ([2,3,5,7,11,13,17,19,23,29,31,37,41,43,47,53,59,61,67,71,73,79,83,89,97,101,103,107,109,113,127,131,137,139,149,151,157,163,167,173,179,181,191,193,197,199,211,223,227,229,233,239,241,251]:List Nat).elem p)=true:=by decide +kernel
end Go.Proofs.YtlmglaonldlanaaGreat.Pln
namespace Go.Proofs.YtlmglaonldlanaaGreat.Pln
def addD (p:Nat):Nat->Nat->Nat->Nat
 | 0,_,_=>0
 | k+1,x,y=>(x % p+y % p) % p+p*addD p k (x / p) (y / p)
def negD (p:Nat):Nat->Nat->Nat
 | 0,_=>0
 | k+1,x=>(p-x % p) % p+p*negD p k (x / p)
theorem addD_zero (p:Nat):∀ k,addD p k 0 0=0
 | 0=>rfl
 | k+1=>by simp [addD,addD_zero p k]
theorem negD_zero (p:Nat):∀ k,negD p k 0=0
 | 0=>rfl
 | k+1=>by simp [negD,negD_zero p k]
theorem addD_val (p:Nat):∀ k x y,addD p k x y=val p (List.zipWith (fun a b=>(a+b) % p) (digs p k x) (digs p k y))
 | 0,_,_=>rfl
 | k+1,x,y=>by simp [addD,digs,val,addD_val p k]
theorem negD_val (p:Nat):∀ k x,negD p k x=val p ((digs p k x).map fun a=>(p-a) % p)
 | 0,_=>rfl
 | k+1,x=>by simp [negD,digs,val,negD_val p k]
theorem lt_pow_succ {p k d r:Nat} (hd:d<p) (hr:r<p ^ k):d+p*r<p ^ (k+1):=by
 rw [Nat.pow_succ,Nat.mul_comm (p ^ k) p]
 have:p*(r+1)<=p*p ^ k:=Nat.mul_le_mul_left _ hr
 rw [Nat.mul_add,Nat.mul_one] at this
 omega
theorem qeO {p:Nat} (hp:0<p):∀ k x y,addD p k x y<p ^ k
 | 0,_,_=>by simp [addD]
 | k+1,x,y=>lt_pow_succ (Nat.mod_lt _ hp) (qeO hp k _ _)
theorem qfN {p:Nat} (hp:0<p):∀ k x,negD p k x<p ^ k
 | 0,_=>by simp [negD]
 | k+1,x=>lt_pow_succ (Nat.mod_lt _ hp) (qfN hp k _)
theorem xor_mod2 (x y:Nat):(x ^^^ y) % 2=(x+y) % 2:=by
 have h:=@Nat.xor_mod_two_pow x y 1
 simp only [Nat.pow_one] at h
 rw [h]
 rcases Nat.mod_two_eq_zero_or_one x with hx | hx <;> rcases Nat.mod_two_eq_zero_or_one y with hy | hy <;> rw [hx,hy] <;> simp <;> omega
theorem xor_addD:∀ k x y,x<2 ^ k->y<2 ^ k->x ^^^ y=addD 2 k x y
 | 0,x,y,hx,hy => by
   simp at hx hy
   subst hx hy
   rfl
 | k + 1,x,y,hx,hy => by
   have ih:=xor_addD k (x / 2) (y / 2) (by rw [Nat.pow_succ] at hx;omega) (by rw [Nat.pow_succ] at hy;omega)
   have h1:(x ^^^ y) / 2=x / 2 ^^^ y / 2:=Nat.xor_div_two
   have h2:(x ^^^ y) % 2=(x+y) % 2:=xor_mod2 x y
   simp only [addD]
   omega
structure Ops where
 add:Nat->Nat->Nat
 mul:Nat->Nat->Nat
 neg:Nat->Nat
 inv:Nat->Nat
def at2 (rows:List (List Nat)) (i c:Nat):Nat:=(rows.getD i []).getD c 0
def addRow (O:Ops) (v:List Nat) (a:Nat) (u:List Nat):List Nat:=List.zipWith (fun x y=>if y=0 then x else O.add x (O.mul a y)) v u
def scaleRow (O:Ops) (a:Nat) (v:List Nat):List Nat:=v.map (O.mul a)
def findRow (rows:List (List Nat)) (c:Nat):Nat->Nat->Nat
 | 0,k=>k
 | g+1,k=>if at2 rows k c=0 then findRow rows c g (k+1) else k
def swapRows (rows:List (List Nat)) (i j:Nat):List (List Nat):=(rows.set i (rows.getD j [])).set j (rows.getD i [])
def normRow (O:Ops) (rows:List (List Nat)) (i c:Nat):List (List Nat):=if at2 rows i c=1 then rows else rows.set i (scaleRow O (O.inv (at2 rows i c)) (rows.getD i []))
def clearGo (O:Ops) (c t:Nat) (rows:List (List Nat)):Nat->List (List Nat)
 | 0=>rows
 | i+1=>if i≠t/\at2 (clearGo O c t rows i) i c≠0 then (clearGo O c t rows i).set i (addRow O ((clearGo O c t rows i).getD i []) (O.neg (at2 (clearGo O c t rows i) i c)) ((clearGo O c t rows i).getD t [])) else clearGo O c t rows i
structure ElS where
 rows:List (List Nat)
 piv:List Nat
def elStep (O:Ops) (c:Nat) (s:ElS):ElS :=
 if s.piv.length<s.rows.length then
  if findRow s.rows c (s.rows.length-s.piv.length) s.piv.length=s.rows.length then s
  else ⟨clearGo O c s.piv.length (normRow O (swapRows s.rows s.piv.length (findRow s.rows c (s.rows.length-s.piv.length) s.piv.length)) s.piv.length c) s.rows.length,s.piv++[c]⟩
 else s
def elGo (O:Ops) (rows:List (List Nat)):Nat->ElS
 | 0=>⟨rows,[]⟩
 | c+1=>elStep O c (elGo O rows c)
def canonM (O:Ops) (rows:List (List Nat)) (cols:Nat):List (List Nat):=(elGo O rows cols).rows.take (elGo O rows cols).piv.length
def Grid (q n cols:Nat) (rows:List (List Nat)):Prop:=rows.length=n/\∀ r∈rows,r.length=cols/\∀ x∈r,x<q
structure OpsEq (q:Nat) (O O':Ops):Prop where
 add:∀ x y,x<q->y<q->O.add x y=O'.add x y/\O.add x y<q
 mul:∀ x y,x<q->y<q->O.mul x y=O'.mul x y/\O.mul x y<q
 neg:∀ x,x<q->O.neg x=O'.neg x/\O.neg x<q
 inv:∀ x,x<q->x≠0->O.inv x=O'.inv x/\O.inv x<q
section
variable {q n cols:Nat} {O O':Ops}
theorem Grid.row {rows:List (List Nat)} (h:Grid q n cols rows) {i:Nat} (hi:i<n):(rows.getD i []).length=cols/\∀ x∈rows.getD i [],x<q:=by
 have:rows.getD i []=rows[i]'(by rw [h.1];exact hi):=by simp [List.getD,h.1,hi]
 rw [this]
 exact h.2 _ (List.getElem_mem _)
theorem Grid.at_ {rows:List (List Nat)} (h:Grid q n cols rows) {i c:Nat} (hi:i<n) (hc:c<cols):at2 rows i c<q:=by
 obtain ⟨h1,h2⟩:=h.row hi
 unfold at2
 have:(rows.getD i []).getD c 0=(rows.getD i [])[c]'(by omega):=by simp [List.getD,show c<(rows[i]?.getD []).length from by simpa [List.getD] using (by omega:c<(rows.getD i []).length)]
 rw [this]
 exact h2 _ (List.getElem_mem _)
theorem Grid.set {rows:List (List Nat)} (h:Grid q n cols rows) (i:Nat) {r:List Nat} (hr:r.length=cols/\∀ x∈r,x<q):Grid q n cols (rows.set i r):=by
 refine ⟨by simp [h.1],fun s hs=>?_⟩
 rcases List.mem_or_eq_of_mem_set hs with h' | rfl
 . exact h.2 _ h'
 . exact hr
theorem addRow_eq (E:OpsEq q O O') {v u:List Nat} {a:Nat} (ha:a<q) (hv:∀ x∈v,x<q) (hu:∀ x∈u,x<q):addRow O v a u=addRow O' v a u/\∀ x∈addRow O v a u,x<q:=by
 induction v generalizing u with
 | nil=>simp [addRow]
 | cons x v ih =>
   cases u with
   | nil=>simp [addRow]
   | cons y u =>
     have hx:=hv x (List.mem_cons_self ..)
     have hy:=hu y (List.mem_cons_self ..)
     obtain ⟨i1,i2⟩:=ih (fun z hz=>hv z (List.mem_cons_of_mem _ hz)) (fun z hz=>hu z (List.mem_cons_of_mem _ hz))
     obtain ⟨m1,m2⟩:=E.mul a y ha hy
     obtain ⟨s1,s2⟩:=E.add x (O.mul a y) hx m2
     unfold addRow at i1 i2 ⊢
     simp only [List.zipWith_cons_cons,i1]
     refine ⟨?_,?_⟩
     . by_cases h0 : y = 0
       . simp [h0]
       . simp only [if_neg h0]
         rw [s1,m1]
     . intro z hz
       rcases List.mem_cons.1 hz with rfl | hz
       . by_cases h0 : y = 0
         . simp only [if_pos h0];exact hx
         . simp only [if_neg h0];exact s2
       . rw [<- i1] at hz;exact i2 z hz
theorem scaleRow_eq (E:OpsEq q O O') {v:List Nat} {a:Nat} (ha:a<q) (hv:∀ x∈v,x<q):scaleRow O a v=scaleRow O' a v/\∀ x∈scaleRow O a v,x<q:=by
 unfold scaleRow
 refine ⟨List.map_congr_left fun x hx=>(E.mul a x ha (hv x hx)).1,fun z hz=>?_⟩
 obtain ⟨x,hx,rfl⟩:=List.mem_map.1 hz
 exact (E.mul a x ha (hv x hx)).2
theorem qfC (rows:List (List Nat)) (c:Nat):∀ g k,k<=findRow rows c g k/\findRow rows c g k<=k+g
 | 0,k=>by simp [findRow]
 | g + 1,k => by
   unfold findRow
   split
   . have:=qfC rows c g (k+1);omega
   . omega
theorem qeB (rows:List (List Nat)) (c:Nat):∀ g k,findRow rows c g k<k+g->at2 rows (findRow rows c g k) c≠0
 | 0,k=>by simp [findRow]
 | g + 1,k => by
   unfold findRow
   split
   . intro h;exact qeB rows c g (k+1) (by omega)
   . intro _;assumption
theorem swap_grid {rows:List (List Nat)} (h:Grid q n cols rows) {i j:Nat} (hi:i<n) (hj:j<n):Grid q n cols (swapRows rows i j):=(h.set i (h.row hj)).set j (h.row hi)
theorem swap_at {rows:List (List Nat)} {i j:Nat} (hi:i<rows.length) (hj:j<rows.length):(swapRows rows i j).getD i []=rows.getD j []:=by
 unfold swapRows
 by_cases h:i=j
 . subst h;simp [List.getD,hi]
 . simp only [List.getD]
   rw [List.getElem?_set_ne (by omega),List.getElem?_set_self (by simpa using hi)]
   rfl
theorem norm_eq (E:OpsEq q O O') {rows:List (List Nat)} (h:Grid q n cols rows) {i c:Nat} (hi:i<n) (hc:c<cols) (h0:at2 rows i c≠0):normRow O rows i c=normRow O' rows i c/\Grid q n cols (normRow O rows i c):=by
 obtain ⟨v1,v2⟩:=E.inv _ (h.at_ hi hc) h0
 obtain ⟨r1,r2⟩:=h.row hi
 obtain ⟨s1,s2⟩:=scaleRow_eq E v2 r2
 unfold normRow
 rw [<- v1,s1]
 refine ⟨rfl,?_⟩
 split
 . exact h
 . rw [<- s1]
   exact h.set i ⟨by unfold scaleRow;rw [List.length_map];exact r1,s2⟩
theorem qfA (E:OpsEq q O O') {rows:List (List Nat)} (h:Grid q n cols rows) {c t:Nat} (hc:c<cols) (ht:t<n):∀ i,i<=n->clearGo O c t rows i=clearGo O' c t rows i/\Grid q n cols (clearGo O c t rows i)
 | 0,_=>⟨rfl,h⟩
 | i + 1,hi => by
   obtain ⟨e,g⟩:=qfA E h hc ht i (by omega)
   obtain ⟨v1,v2⟩:=E.neg _ (g.at_ (i:=i) (by omega) hc)
   obtain ⟨r1,r2⟩:=g.row (i:=i) (by omega)
   obtain ⟨t1,t2⟩:=g.row ht
   obtain ⟨s1,s2⟩:=addRow_eq E v2 r2 t2
   unfold clearGo
   rw [<- e,<- v1,s1]
   refine ⟨rfl,?_⟩
   split
   . rw [<- s1]
     exact g.set i ⟨by unfold addRow;rw [List.length_zipWith,r1,t1,Nat.min_self],s2⟩
   . exact g
theorem elStep_eq (E:OpsEq q O O') {c:Nat} (hc:c<cols) {s:ElS} (h:Grid q n cols s.rows):elStep O c s=elStep O' c s/\Grid q n cols (elStep O c s).rows:=by
 unfold elStep
 by_cases h1:s.piv.length<s.rows.length
 . simp only [if_pos h1]
   have hf:=qfC s.rows c (s.rows.length-s.piv.length) s.piv.length
   by_cases h2:findRow s.rows c (s.rows.length-s.piv.length) s.piv.length=s.rows.length
   . simp only [if_pos h2]
     exact ⟨trivial,h⟩
   . simp only [if_neg h2]
     have hne:=qeB s.rows c (s.rows.length-s.piv.length) s.piv.length (by omega)
     generalize findRow s.rows c (s.rows.length-s.piv.length) s.piv.length=k at *
     have hk:k<s.rows.length:=by omega
     have hln:=h.1
     have g1:=swap_grid h (i:=s.piv.length) (j:=k) (by omega) (by omega)
     have e1:at2 (swapRows s.rows s.piv.length k) s.piv.length c≠0:=by
      unfold at2 at hne ⊢
      rw [swap_at (by omega) (by omega)]
      exact hne
     obtain ⟨n1,n2⟩:=norm_eq E g1 (i:=s.piv.length) (by omega) hc e1
     obtain ⟨c1,c2⟩:=qfA E n2 (t:=s.piv.length) hc (by omega) n (Nat.le_refl _)
     rw [hln]
     exact ⟨by rw [c1,n1],c2⟩
 . simp only [if_neg h1]
   exact ⟨trivial,h⟩
theorem qfR (E:OpsEq q O O') {rows:List (List Nat)} (h:Grid q n cols rows):∀ c,c<=cols->elGo O rows c=elGo O' rows c/\Grid q n cols (elGo O rows c).rows
 | 0,_=>⟨rfl,h⟩
 | c + 1,hc => by
   obtain ⟨e,g⟩:=qfR E h c (by omega)
   have:=elStep_eq E (c:=c) (by omega) g
   unfold elGo
   rw [<- e]
   exact this
theorem canon_eq (E:OpsEq q O O') {rows:List (List Nat)} (h:Grid q n cols rows):canonM O rows cols=canonM O' rows cols:=by
 unfold canonM
 rw [(qfR E h cols (Nat.le_refl _)).1]
end
end Go.Proofs.YtlmglaonldlanaaGreat.Pln
