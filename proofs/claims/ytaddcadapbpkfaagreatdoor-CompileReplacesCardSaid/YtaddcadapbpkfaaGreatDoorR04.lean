/-
 Plain: the ring of vectors modulo a monic polynomial; the two products of residues are one.
-/
namespace Go.Proofs.YtaddcadapbpkfaaGreatDoor.Pln
abbrev Vec := Nat -> Int
def sh (m : Nat) (md : Vec) (v : Vec) : Vec := fun j => if j < m then (if j = 0 then 0 else v (j - 1)) - v (m - 1) * md j else 0
def shN (m : Nat) (md : Vec) : Nat -> Vec -> Vec
 | 0,v => v
 | k + 1,v => sh m md (shN m md k v)
def pol (m : Nat) (md : Vec) (b : Vec) : Nat -> Vec -> Vec
 | 0,_ => fun _ => 0
 | k + 1,a => fun j => b k * shN m md k a j + pol m md b k a j
def un : Vec := fun j => if j = 0 then 1 else 0
def Supp (m : Nat) (a : Vec) : Prop := ∀ j,m <= j -> a j = 0
section
variable (m : Nat) (md : Vec)
theorem sh_lin (a : Int) (u v : Vec) : sh m md (fun j => a * u j + v j) = fun j => a * sh m md u j + sh m md v j := by
 funext j
 unfold sh
 by_cases h : j < m <;> by_cases h0 : j = 0 <;> simp only [h,h0,if_true,if_false] <;> grind
theorem sh_zero : sh m md (fun _ => 0) = fun _ => 0 := by
 funext j
 unfold sh
 by_cases h : j < m <;> by_cases h0 : j = 0 <;> simp [h,h0]
theorem shN_lin (a : Int) (u v : Vec) : ∀ k,shN m md k (fun j => a * u j + v j) = fun j => a * shN m md k u j + shN m md k v j
 | 0 => rfl
 | k + 1 => by show sh m md (shN m md k _) = _;rw [shN_lin a u v k,sh_lin];rfl
theorem shN_zero : ∀ k,shN m md k (fun _ => 0) = fun _ => 0
 | 0 => rfl
 | k + 1 => by show sh m md (shN m md k _) = _;rw [shN_zero k,sh_zero]
theorem shN_succ (v : Vec) : ∀ k,shN m md (k + 1) v = shN m md k (sh m md v)
 | 0 => rfl
 | k + 1 => by show sh m md (shN m md (k + 1) v) = _;rw [shN_succ v k];rfl
theorem pol_lin (b : Vec) (a : Int) (u v : Vec) : ∀ k,pol m md b k (fun j => a * u j + v j) = fun j => a * pol m md b k u j + pol m md b k v j
 | 0 => by funext j;simp [pol]
 | k + 1 => by
   funext j
   simp only [pol,pol_lin b a u v k,shN_lin m md a u v k]
   grind
theorem pol_zero (b : Vec) : ∀ k,pol m md b k (fun _ => 0) = fun _ => 0
 | 0 => rfl
 | k + 1 => by funext j;simp [pol,pol_zero b k,shN_zero m md k]
theorem pol_coef (a : Int) (b c : Vec) (u : Vec) : ∀ k,pol m md (fun j => a * b j + c j) k u = fun j => a * pol m md b k u j + pol m md c k u j
 | 0 => by funext j;simp [pol]
 | k + 1 => by funext j;simp only [pol,pol_coef a b c u k];grind
theorem pol_sh (b : Vec) (a : Vec) : ∀ k,pol m md b k (sh m md a) = sh m md (pol m md b k a)
 | 0 => by funext j;simp [pol,sh_zero]
 | k + 1 => by
   show (fun j => b k * shN m md k (sh m md a) j + pol m md b k (sh m md a) j) = sh m md (fun j => b k * shN m md k a j + pol m md b k a j)
   rw [sh_lin,pol_sh b a k,<- shN_succ]
   rfl
theorem pol_shN (b : Vec) (a : Vec) (k : Nat) : ∀ i,pol m md b k (shN m md i a) = shN m md i (pol m md b k a)
 | 0 => rfl
 | i + 1 => by show pol m md b k (sh m md (shN m md i a)) = sh m md (shN m md i (pol m md b k a));rw [pol_sh,pol_shN b a k i]
theorem pol_comm (b c a : Vec) (l : Nat) : ∀ k,pol m md b k (pol m md c l a) = pol m md c l (pol m md b k a)
 | 0 => by show (fun _ => 0) = pol m md c l (fun _ => 0);rw [pol_zero]
 | k + 1 => by
   show (fun j => b k * shN m md k (pol m md c l a) j + pol m md b k (pol m md c l a) j) = pol m md c l (fun j => b k * shN m md k a j + pol m md b k a j)
   rw [pol_lin,pol_comm b c a l k,pol_shN]
theorem pol_horner (b a : Vec) : ∀ k,pol m md b (k + 1) a = fun j => b 0 * a j + sh m md (pol m md (fun i => b (i + 1)) k a) j
 | 0 => by funext j;simp [pol,sh_zero,shN]
 | k + 1 => by
   have h := pol_horner b a k
   funext j
   show b (k + 1) * shN m md (k + 1) a j + pol m md b (k + 1) a j = _
   rw [h]
   show _ = b 0 * a j + sh m md (fun j => b (k + 1) * shN m md k a j + pol m md (fun i => b (i + 1)) k a j) j
   rw [sh_lin]
   show b (k + 1) * sh m md (shN m md k a) j + _ = _
   grind
theorem sh_supp (a : Vec) : Supp m (sh m md a) := fun j hj => by unfold sh;rw [if_neg (by omega)]
theorem shN_supp {a : Vec} (h : Supp m a) : ∀ k,Supp m (shN m md k a)
 | 0 => h
 | _ + 1 => sh_supp m md _
theorem pol_supp {b a : Vec} (h : Supp m a) : ∀ k,Supp m (pol m md b k a)
 | 0 => fun _ _ => rfl
 | k + 1 => fun j hj => by simp [pol,pol_supp h k j hj,shN_supp m md h k j hj]
theorem shN_un : ∀ i,i < m -> shN m md i un = fun j => if j = i then 1 else 0
 | 0,_ => rfl
 | i + 1,h => by
   show sh m md (shN m md i un) = _
   rw [shN_un i (by omega)]
   funext j
   unfold sh
   by_cases hj : j < m
   . have hmi : ¬ (m - 1 = i) := by omega
     simp only [if_pos hj,if_neg hmi]
     by_cases h0 : j = 0
     . subst h0;simp
     . have h2 : (j - 1 = i) ↔ (j = i + 1) := by omega
       simp [h0,h2]
   . rw [if_neg hj,if_neg (by omega)]
theorem pol_un (b : Vec) : ∀ k,k <= m -> pol m md b k un = fun j => if j < k then b j else 0
 | 0,_ => by funext j;simp [pol]
 | k + 1,h => by
   funext j
   simp only [pol,shN_un m md k (by omega),pol_un b k (by omega)]
   by_cases h1 : j = k
   . subst h1;simp
   . rw [if_neg h1]
     by_cases h2 : j < k
     . rw [if_pos h2,if_pos (by omega)];simp
     . rw [if_neg h2,if_neg (by omega)];simp
theorem pol_id {b : Vec} (h : Supp m b) : pol m md b m un = b := by
 rw [pol_un m md b m (Nat.le_refl _)]
 funext j
 by_cases hj : j < m
 . rw [if_pos hj]
 . rw [if_neg hj,h j (by omega)]
def mz (a b : Vec) : Vec := pol m md b m a
theorem mz_comm {a b : Vec} (ha : Supp m a) (hb : Supp m b) : mz m md a b = mz m md b a := by
 show pol m md b m a = pol m md a m b
 conv => lhs;rw [<- pol_id m md ha]
 rw [pol_comm,pol_id m md hb]
theorem mz_assoc {a b c : Vec} (ha : Supp m a) (hb : Supp m b) : mz m md (mz m md a b) c = mz m md a (mz m md b c) := by
 have hbc : Supp m (mz m md b c) := pol_supp m md hb m
 rw [mz_comm m md ha hbc]
 show pol m md c m (pol m md b m a) = pol m md a m (pol m md c m b)
 rw [pol_comm m md a c b m m]
 exact congrArg (pol m md c m) (mz_comm m md ha hb)
theorem mz_un {a : Vec} : mz m md un a = fun j => if j < m then a j else 0 := pol_un m md a m (Nat.le_refl _)
end
def Cg (p : Int) (u v : Vec) : Prop := ∃ t : Vec,u = fun j => p * t j + v j
theorem Cg.refl (p : Int) (u : Vec) : Cg p u u := ⟨fun _ => 0,by funext j;simp⟩
theorem Cg.of_eq {p : Int} {u v : Vec} (h : u = v) : Cg p u v := h ▸ Cg.refl p u
theorem Cg.symm {p : Int} {u v : Vec} (h : Cg p u v) : Cg p v u := by
 obtain ⟨t,rfl⟩ := h
 exact ⟨fun j => - t j,by funext j;grind⟩
theorem Cg.trans {p : Int} {u v w : Vec} (h : Cg p u v) (h' : Cg p v w) : Cg p u w := by
 obtain ⟨t,rfl⟩ := h
 obtain ⟨s,rfl⟩ := h'
 exact ⟨fun j => t j + s j,by funext j;grind⟩
theorem Cg.lin {p : Int} {u v u' v' : Vec} (a : Int) (h : Cg p u u') (h' : Cg p v v') : Cg p (fun j => a * u j + v j) (fun j => a * u' j + v' j) := by
 obtain ⟨t,rfl⟩ := h
 obtain ⟨s,rfl⟩ := h'
 exact ⟨fun j => a * t j + s j,by funext j;grind⟩
theorem Cg.at_ {p : Int} {u v : Vec} (h : Cg p u v) (j : Nat) : u j % p = v j % p := by
 obtain ⟨t,rfl⟩ := h
 show (p * t j + v j) % p = _
 rw [Int.add_comm,Int.add_mul_emod_self_left]
theorem Cg.mk {p : Int} {u v : Vec} (h : ∀ j,u j % p = v j % p) : Cg p u v := by
 refine ⟨fun j => u j / p - v j / p,?_⟩
 funext j
 have h1 := Int.mul_ediv_add_emod (u j) p
 have h2 := Int.mul_ediv_add_emod (v j) p
 have := h j
 grind
theorem Cg.sh {p : Int} {u v : Vec} (m : Nat) (md : Vec) (h : Cg p u v) : Cg p (sh m md u) (sh m md v) := by
 obtain ⟨t,rfl⟩ := h
 exact ⟨Pln.sh m md t,by rw [sh_lin]⟩
theorem Cg.pol {p : Int} {u v : Vec} (m : Nat) (md b : Vec) (k : Nat) (h : Cg p u v) : Cg p (pol m md b k u) (pol m md b k v) := by
 obtain ⟨t,rfl⟩ := h
 exact ⟨Pln.pol m md b k t,by rw [pol_lin]⟩
theorem Cg.coef {p : Int} {b c : Vec} (m : Nat) (md a : Vec) (k : Nat) (h : Cg p b c) : Cg p (Pln.pol m md b k a) (Pln.pol m md c k a) := by
 obtain ⟨t,rfl⟩ := h
 exact ⟨Pln.pol m md t k a,by rw [pol_coef]⟩
def digs (p : Nat) : Nat -> Nat -> List Nat
 | 0,_ => []
 | m + 1,x => x % p :: digs p m (x / p)
def val (p : Nat) : List Nat -> Nat
 | [] => 0
 | d :: r => d + p * val p r
def Dig (p m : Nat) (l : List Nat) : Prop := l.length = m /\ ∀ d ∈ l,d < p
def F (l : List Nat) : Vec := fun j => ((l.getD j 0 : Nat) : Int)
theorem getD_past {l : List Nat} {j : Nat} (h : l.length <= j) : l.getD j 0 = 0 := by simp [List.getD,List.getElem?_eq_none h]
theorem qbB (p : Nat) : ∀ m x,(digs p m x).length = m
 | 0,_ => rfl
 | m + 1,x => by simp [digs,qbB p m]
theorem digs_lt {p : Nat} (hp : 0 < p) : ∀ m x,∀ d ∈ digs p m x,d < p
 | 0,_ => by simp [digs]
 | m + 1,x => by
   intro d hd
   simp only [digs,List.mem_cons] at hd
   rcases hd with rfl | hd
   . exact Nat.mod_lt _ hp
   . exact digs_lt hp m _ d hd
theorem digs_dig {p : Nat} (hp : 0 < p) (m x : Nat) : Dig p m (digs p m x) := ⟨qbB p m x,digs_lt hp m x⟩
theorem val_digs {p : Nat} (hp : 0 < p) : ∀ m x,x < p ^ m -> val p (digs p m x) = x
 | 0,x,h => by simp at h;simp [digs,val,h]
 | m + 1,x,h => by
   have h1 : x / p < p ^ m := by rw [Nat.div_lt_iff_lt_mul hp];rwa [Nat.pow_succ] at h
   simp only [digs,val,val_digs hp m _ h1]
   exact Nat.mod_add_div x p
theorem digs_val {p : Nat} (hp : 0 < p) : ∀ l : List Nat,(∀ d ∈ l,d < p) -> digs p l.length (val p l) = l
 | [],_ => rfl
 | d :: r,h => by
   have hd := h d (List.mem_cons_self ..)
   have := digs_val hp r (fun y hy => h y (List.mem_cons_of_mem _ hy))
   simp only [val,List.length_cons,digs]
   rw [Nat.add_mul_mod_self_left,Nat.mod_eq_of_lt hd,Nat.add_mul_div_left _ _ hp,Nat.div_eq_of_lt hd,Nat.zero_add,this]
theorem val_lt {p : Nat} (hp : 0 < p) : ∀ l : List Nat,(∀ d ∈ l,d < p) -> val p l < p ^ l.length
 | [],_ => by simp [val]
 | d :: r,h => by
   have hd := h d (List.mem_cons_self ..)
   have := val_lt hp r (fun y hy => h y (List.mem_cons_of_mem _ hy))
   simp only [val,List.length_cons,Nat.pow_succ]
   have h2 : p * (val p r + 1) <= p * p ^ r.length := Nat.mul_le_mul_left _ this
   rw [Nat.mul_comm (p ^ r.length) p]
   rw [Nat.mul_add,Nat.mul_one] at h2
   omega
theorem F_supp {m : Nat} {l : List Nat} (h : l.length <= m) : Supp m (F l) := fun j hj => by
 unfold F
 rw [getD_past (by omega)]
 rfl
theorem F_inj {p : Nat} {l l' : List Nat} (hl : l.length = l'.length) (h : ∀ d ∈ l,d < p) (h' : ∀ d ∈ l',d < p) (hc : Cg p (F l) (F l')) : l = l' := by
 apply List.ext_getElem hl
 intro j h1 h2
 have := hc.at_ j
 unfold F at this
 have e1 : l.getD j 0 = l[j] := by simp [List.getD,h1]
 have e2 : l'.getD j 0 = l'[j] := by simp [List.getD,h2]
 rw [e1,e2] at this
 have a1 := h _ (List.getElem_mem h1)
 have a2 := h' _ (List.getElem_mem h2)
 rw [Int.emod_eq_of_lt (by omega) (by omega),Int.emod_eq_of_lt (by omega) (by omega)] at this
 omega
def stepM (p m : Nat) (md a : List Nat) (bi : Nat) (out : List Nat) : List Nat :=
 (List.range m).map fun j => ((if j = 0 then 0 else out.getD (j - 1) 0) + (p - out.getD (m - 1) 0) * md.getD j 0 + bi * a.getD j 0) % p
def mulL (p m : Nat) (md a b : List Nat) : List Nat := b.foldr (fun bi out => stepM p m md a bi out) (List.replicate m 0)
theorem stepM_dig {p m : Nat} (hp : 0 < p) (md a : List Nat) (bi : Nat) (out : List Nat) : Dig p m (stepM p m md a bi out) := by
 refine ⟨by simp [stepM],?_⟩
 intro d hd
 unfold stepM at hd
 obtain ⟨j,_,rfl⟩ := List.mem_map.1 hd
 exact Nat.mod_lt _ hp
theorem qcQ {p m : Nat} (hp : 0 < p) {l : List Nat} (h : Dig p m l) (j : Nat) : l.getD j 0 < p := by
 by_cases hj : j < l.length
 . have : l.getD j 0 = l[j] := by simp [List.getD,hj]
   rw [this]
   exact h.2 _ (List.getElem_mem hj)
 . rw [getD_past (by omega)]
   exact hp
theorem stepM_spec {p m : Nat} (hp : 0 < p) (md a : List Nat) (ha : a.length = m) (bi : Nat) (out : List Nat) (ho : Dig p m out) :
 Cg p (F (stepM p m md a bi out)) (fun j => (bi : Int) * F a j + sh m (F md) (F out) j) := by
 apply Cg.mk
 intro j
 by_cases hj : j < m
 . have e : (stepM p m md a bi out).getD j 0 = ((if j = 0 then 0 else out.getD (j - 1) 0) + (p - out.getD (m - 1) 0) * md.getD j 0 + bi * a.getD j 0) % p := by
    simp [stepM,List.getD,hj]
   have ht := qcQ hp ho (m - 1)
   show ((((stepM p m md a bi out).getD j 0 : Nat) : Int)) % p = _
   rw [e]
   unfold sh F
   rw [if_pos hj]
   generalize out.getD (m - 1) 0 = t at *
   generalize md.getD j 0 = d at *
   generalize a.getD j 0 = y at *
   have hs : (((if j = 0 then 0 else out.getD (j - 1) 0) : Nat) : Int) = (if j = 0 then (0 : Int) else ((out.getD (j - 1) 0 : Nat) : Int)) := by split <;> rfl
   rw [<- hs]
   generalize (if j = 0 then 0 else out.getD (j - 1) 0) = s at *
   have hc : (((s + (p - t) * d + bi * y) % p : Nat) : Int) = ((bi : Int) * y + (s - (t : Int) * d) + p * d) % p := by
    rw [Int.natCast_emod]
    congr 1
    rw [Int.natCast_add,Int.natCast_add,Int.natCast_mul,Int.natCast_mul,Int.natCast_sub (Nat.le_of_lt ht)]
    grind
   rw [hc,Int.add_mul_emod_self_left,Int.emod_emod]
 . have h1 : F (stepM p m md a bi out) j = 0 := F_supp (m := m) (by simp [stepM]) j (by omega)
   have h2 : F a j = 0 := F_supp (m := m) (by omega) j (by omega)
   have h3 : sh m (F md) (F out) j = 0 := sh_supp m _ _ j (by omega)
   rw [h1,h2,h3]
   simp
theorem qbI {p m : Nat} (hp : 0 < p) (md a b : List Nat) : Dig p m (mulL p m md a b) := by
 cases b with
 | nil => exact ⟨by simp [mulL],fun d hd => by simp [mulL] at hd;omega⟩
 | cons x r => exact stepM_dig hp md a x _
theorem F_zero (m : Nat) : F (List.replicate m 0) = fun _ => 0 := by
 funext j
 unfold F
 simp [List.getD,List.getElem?_replicate]
 split <;> simp
theorem F_cons (x : Nat) (r : List Nat) (i : Nat) : F (x :: r) (i + 1) = F r i := by simp [F]
theorem mulL_spec' {p m : Nat} (hp : 0 < p) (md a : List Nat) (ha : a.length = m) : ∀ b : List Nat,Cg p (F (mulL p m md a b)) (pol m (F md) (F b) b.length (F a))
 | [] => by
   apply Cg.of_eq
   show F (List.replicate m 0) = _
   rw [F_zero]
   rfl
 | x :: r => by
   have ih := mulL_spec' hp md a ha r
   have h1 := stepM_spec hp md a ha x (mulL p m md a r) (qbI hp md a r)
   refine Cg.trans h1 ?_
   rw [List.length_cons,pol_horner]
   have e : (fun i => F (x :: r) (i + 1)) = F r := by funext i;exact F_cons x r i
   rw [e]
   exact Cg.lin _ (Cg.refl _ _) (ih.sh m (F md))
theorem qcO {p m : Nat} (hp : 0 < p) (md a b : List Nat) (ha : a.length = m) (hb : b.length = m) : Cg p (F (mulL p m md a b)) (mz m (F md) (F a) (F b)) := by
 have := mulL_spec' hp md a ha b
 rw [hb] at this
 exact this
theorem mz_cg {p : Int} {m : Nat} {md a a' b b' : Vec} (ha : Cg p a a') (hb : Cg p b b') : Cg p (mz m md a b) (mz m md a' b') := (ha.pol m md b m).trans (hb.coef m md a' m)
theorem mulL_comm {p m : Nat} (hp : 0 < p) (md a b : List Nat) (ha : a.length = m) (hb : b.length = m) : mulL p m md a b = mulL p m md b a := by
 have h1 := qbI (m := m) hp md a b
 have h2 := qbI (m := m) hp md b a
 refine F_inj (h1.1.trans h2.1.symm) h1.2 h2.2 ?_
 refine (qcO hp md a b ha hb).trans (Cg.trans (Cg.of_eq ?_) (qcO hp md b a hb ha).symm)
 exact mz_comm m _ (F_supp (by omega)) (F_supp (by omega))
theorem mulL_assoc {p m : Nat} (hp : 0 < p) (md a b c : List Nat) (ha : a.length = m) (hb : b.length = m) (hc : c.length = m) :
 mulL p m md (mulL p m md a b) c = mulL p m md a (mulL p m md b c) := by
 have d1 := qbI (m := m) hp md a b
 have d2 := qbI (m := m) hp md b c
 have h1 := qbI (m := m) hp md (mulL p m md a b) c
 have h2 := qbI (m := m) hp md a (mulL p m md b c)
 refine F_inj (h1.1.trans h2.1.symm) h1.2 h2.2 ?_
 refine (qcO hp md _ c d1.1 hc).trans (Cg.trans (mz_cg (qcO hp md a b ha hb) (Cg.refl _ _)) ?_)
 refine Cg.trans (Cg.of_eq (mz_assoc m _ (F_supp (by omega)) (F_supp (by omega)))) ?_
 exact (mz_cg (Cg.refl _ _) (qcO hp md b c hb hc).symm).trans (qcO hp md a _ ha d2.1).symm
def addAt (p : Nat) (c : List Nat) (k z : Nat) : List Nat := c.set k ((c.getD k 0 + z) % p)
def convRow (p i ai : Nat) (b c : List Nat) : Nat -> List Nat
 | 0 => c
 | j + 1 => addAt p (convRow p i ai b c j) (i + j) (ai * b.getD j 0)
def conv (p m : Nat) (a b : List Nat) : Nat -> List Nat
 | 0 => List.replicate (2 * m - 1) 0
 | i + 1 => convRow p i (a.getD i 0) b (conv p m a b i) m
end Go.Proofs.YtaddcadapbpkfaaGreatDoor.Pln
namespace Go.Proofs.YtaddcadapbpkfaaGreatDoor.Pln
structure Mon (q : Nat) (mul : Nat -> Nat -> Nat) : Prop where
 lt : ∀ x y,mul x y < q
 comm : ∀ x y,mul x y = mul y x
 assoc : ∀ x y z,mul (mul x y) z = mul x (mul y z)
 one : ∀ x,x < q -> mul 1 x = x
 zero : ∀ x,mul 0 x = 0
 q1 : 1 < q
def pw (mul : Nat -> Nat -> Nat) (x : Nat) : Nat -> Nat
 | 0 => 1
 | k + 1 => mul (pw mul x k) x
def pows (mul : Nat -> Nat -> Nat) (x : Nat) : Nat -> Nat -> List Nat -> List Nat
 | 0,_,acc => acc
 | g + 1,y,acc => if y = 0 \/ y ∈ acc then acc else pows mul x g (mul y x) (acc ++ [y])
def powers (mul : Nat -> Nat -> Nat) (q x : Nat) : List Nat := pows mul x q x [1]
def genGo (mul : Nat -> Nat -> Nat) (q : Nat) : Nat -> Nat -> List Nat
 | 0,_ => []
 | g + 1,x => if (powers mul q x).length = q - 1 /\ mul ((powers mul q x).getD (q - 2) 0) x = 1 then powers mul q x else genGo mul q g (x + 1)
def genM (mul : Nat -> Nat -> Nat) (q : Nat) : List Nat := genGo mul q (q - 1) 1
def pl (mul : Nat -> Nat -> Nat) (x k : Nat) : List Nat := (List.range k).map (pw mul x)
structure Tab (q : Nat) (mul : Nat -> Nat -> Nat) (l : List Nat) : Prop where
 ex : ∃ x,1 <= x /\ x < q /\ l = pl mul x (q - 1) /\ pw mul x (q - 1) = 1
 nd : l.Nodup
 nz : ∀ a ∈ l,a ≠ 0
 lt : ∀ a ∈ l,a < q
theorem pigeon : ∀ (n : Nat) (l : List Nat),l.Nodup -> (∀ a ∈ l,a < n) -> l.length <= n
 | 0,l,_,h => by
   cases l with
   | nil => simp
   | cons a r => exact absurd (h a (List.mem_cons_self ..)) (by omega)
 | n + 1,l,hn,h => by
   by_cases hm : n ∈ l
   . have h1 := pigeon n (l.erase n) (hn.erase n) (fun a ha => by
      have h2 := h a (List.mem_of_mem_erase ha)
      have h3 : a ≠ n := fun e => by subst e;exact (List.Nodup.not_mem_erase hn) ha
      omega)
     have h2 := List.length_erase_of_mem hm
     omega
   . have h1 := pigeon n l hn (fun a ha => by
      have h2 := h a ha
      have h3 : a ≠ n := fun e => by subst e;exact hm ha
      omega)
     omega
section
variable {q : Nat} {mul : Nat -> Nat -> Nat}
theorem pw_lt (H : Mon q mul) (x : Nat) : ∀ k,pw mul x k < q
 | 0 => H.q1
 | _ + 1 => H.lt _ _
theorem pw_add (H : Mon q mul) (x i : Nat) : ∀ j,pw mul x (i + j) = mul (pw mul x i) (pw mul x j)
 | 0 => by show pw mul x i = mul (pw mul x i) 1;rw [H.comm,H.one _ (pw_lt H x i)]
 | j + 1 => by show mul (pw mul x (i + j)) x = mul (pw mul x i) (mul (pw mul x j) x);rw [pw_add H x i j,H.assoc]
theorem pw_per (H : Mon q mul) {x n : Nat} (h : pw mul x n = 1) (k : Nat) : pw mul x (n + k) = pw mul x k := by rw [pw_add H,h,H.one _ (pw_lt H x k)]
theorem pw_pers (H : Mon q mul) {x n : Nat} (h : pw mul x n = 1) (k : Nat) : ∀ t,pw mul x (n * t + k) = pw mul x k
 | 0 => by simp
 | t + 1 => by rw [Nat.mul_succ,Nat.add_right_comm,Nat.add_comm (n * t + k) n,pw_per H h,pw_pers H h k t]
theorem pw_mod (H : Mon q mul) {x n : Nat} (h : pw mul x n = 1) (k : Nat) : pw mul x (k % n) = pw mul x k := by
 conv => rhs;rw [<- Nat.div_add_mod k n]
 rw [pw_pers H h]
theorem pl_succ (x k : Nat) : pl mul x (k + 1) = pl mul x k ++ [pw mul x k] := by simp [pl,List.range_succ]
theorem pl_len (x k : Nat) : (pl mul x k).length = k := by simp [pl]
theorem mem_pl {x k a : Nat} : a ∈ pl mul x k ↔ ∃ i,i < k /\ pw mul x i = a := by simp [pl]
def Good (mul : Nat -> Nat -> Nat) (x k : Nat) : Prop := (pl mul x k).Nodup /\ ∀ a ∈ pl mul x k,a ≠ 0
theorem good_one (x : Nat) : Good mul x 1 := by
 have e : pl mul x 1 = [1] := rfl
 unfold Good
 rw [e]
 simp
theorem good_succ {x k : Nat} (h : Good mul x k) (h0 : pw mul x k ≠ 0) (hm : pw mul x k ∉ pl mul x k) : Good mul x (k + 1) := by
 unfold Good at h ⊢
 rw [pl_succ]
 refine ⟨?_,?_⟩
 . rw [List.nodup_append]
   refine ⟨h.1,by simp,?_⟩
   intro a ha b hb e
   simp at hb
   subst hb
   subst e
   exact hm ha
 . intro a ha
   rcases List.mem_append.1 ha with h1 | h1
   . exact h.2 a h1
   . simp at h1
     rw [h1]
     exact h0
theorem good_len (H : Mon q mul) {x k : Nat} (h : Good mul x k) : k <= q - 1 := by
 have h1 : (0 :: pl mul x k).Nodup := by
  rw [List.nodup_cons]
  exact ⟨fun hm => h.2 0 hm rfl,h.1⟩
 have h2 := pigeon q _ h1 (fun a ha => by
  rcases List.mem_cons.1 ha with rfl | ha
  . have := H.q1;omega
  . obtain ⟨i,_,rfl⟩ := mem_pl.1 ha
    exact pw_lt H x i)
 simp [pl_len] at h2
 omega
theorem pows_spec (H : Mon q mul) (x : Nat) : ∀ g k,Good mul x k -> 1 <= k -> ∃ k',Good mul x k' /\ k <= k' /\ pows mul x g (pw mul x k) (pl mul x k) = pl mul x k'
 | 0,k,h,_ => ⟨k,h,Nat.le_refl _,rfl⟩
 | g + 1,k,h,hk => by
   by_cases hs : pw mul x k = 0 \/ pw mul x k ∈ pl mul x k
   . exact ⟨k,h,Nat.le_refl _,by simp [pows,hs]⟩
   . have hs' : pw mul x k ≠ 0 /\ pw mul x k ∉ pl mul x k := ⟨fun e => hs (.inl e),fun e => hs (.inr e)⟩
     obtain ⟨k',h1,h2,h3⟩ := pows_spec H x g (k + 1) (good_succ h hs'.1 hs'.2) (by omega)
     refine ⟨k',h1,by omega,?_⟩
     rw [<- h3,pl_succ]
     simp only [pows,if_neg hs]
     rfl
theorem powers_spec (H : Mon q mul) {x : Nat} (hx : x < q) : ∃ k,Good mul x k /\ 1 <= k /\ powers mul q x = pl mul x k := by
 have h1 : pw mul x 1 = x := by show mul 1 x = x;exact H.one x hx
 obtain ⟨k,h,hk,e⟩ := pows_spec H x q 1 (good_one x) (Nat.le_refl _)
 rw [h1] at e
 exact ⟨k,h,hk,e⟩
theorem tab_of (H : Mon q mul) {x : Nat} (h1 : 1 <= x) (hx : x < q) (hl : (powers mul q x).length = q - 1) (hm : mul ((powers mul q x).getD (q - 2) 0) x = 1) : Tab q mul (powers mul q x) := by
 obtain ⟨k,hg,hk,e⟩ := powers_spec H hx
 rw [e,pl_len] at hl
 subst hl
 rw [e] at hm ⊢
 have hq := H.q1
 refine ⟨⟨x,h1,hx,rfl,?_⟩,hg.1,hg.2,fun a ha => ?_⟩
 . obtain ⟨n,hn⟩ : ∃ n,q = n + 2 := ⟨q - 2,by omega⟩
   subst hn
   have e2 : (pl mul x (n + 2 - 1)).getD (n + 2 - 2) 0 = pw mul x n := by simp [pl,List.getD]
   rw [e2] at hm
   exact hm
 . obtain ⟨i,_,rfl⟩ := mem_pl.1 ha
   exact pw_lt H x i
theorem genGo_tab (H : Mon q mul) : ∀ g x,1 <= x -> x + g <= q -> genGo mul q g x ≠ [] -> Tab q mul (genGo mul q g x)
 | 0,_,_,_,h => absurd rfl h
 | g + 1,x,h1,h2,h => by
   unfold genGo at h ⊢
   by_cases hc : (powers mul q x).length = q - 1 /\ mul ((powers mul q x).getD (q - 2) 0) x = 1
   . rw [if_pos hc]
     exact tab_of H h1 (by omega) hc.1 hc.2
   . rw [if_neg hc] at h ⊢
     exact genGo_tab H g (x + 1) (by omega) (by omega) h
theorem genM_tab (H : Mon q mul) (h : genM mul q ≠ []) : Tab q mul (genM mul q) := genGo_tab H (q - 1) 1 (Nat.le_refl _) (by have := H.q1;omega) h
theorem Tab.len {l : List Nat} (T : Tab q mul l) : l.length = q - 1 := by
 obtain ⟨x,_,_,e,_⟩ := T.ex
 rw [e,pl_len]
theorem Tab.full (H : Mon q mul) {l : List Nat} (T : Tab q mul l) {a : Nat} (h0 : a ≠ 0) (ha : a < q) : a ∈ l := by
 refine Classical.byContradiction fun hn => ?_
 have h1 : (0 :: a :: l).Nodup := by
  rw [List.nodup_cons,List.nodup_cons]
  refine ⟨?_,hn,T.nd⟩
  intro hm
  rcases List.mem_cons.1 hm with h | h
  . exact h0 h.symm
  . exact T.nz 0 h rfl
 have hq := H.q1
 have h2 := pigeon q _ h1 (fun b hb => by
  rcases List.mem_cons.1 hb with rfl | hb
  . omega
  . rcases List.mem_cons.1 hb with rfl | hb
    . exact ha
    . exact T.lt b hb)
 simp [T.len] at h2
 omega
def logGo (l : List Nat) (t : List Nat) : Nat -> List Nat
 | 0 => t
 | n + 1 => (logGo l t n).set (l.getD n 0) n
def logL (l : List Nat) (q : Nat) : List Nat := logGo l (List.replicate q 0) l.length
theorem qdG (l t : List Nat) : ∀ n,(logGo l t n).length = t.length
 | 0 => rfl
 | n + 1 => by simp [logGo,qdG l t n]
theorem logGo_at (l t : List Nat) (hnd : l.Nodup) (hlt : ∀ a ∈ l,a < t.length) : ∀ n,n <= l.length -> ∀ i,i < n -> (logGo l t n).getD (l.getD i 0) 0 = i
 | 0,_,i,hi => absurd hi (by omega)
 | n + 1,hn,i,hi => by
   by_cases h : i = n
   . subst h
     have hm : l.getD i 0 ∈ l := by
      have : l.getD i 0 = l[i] := by simp [List.getD,show i < l.length by omega]
      rw [this]
      exact List.getElem_mem _
     have h2 := hlt _ hm
     simp only [logGo,List.getD] at h2 ⊢
     rw [List.getElem?_set_self (by rw [qdG];exact h2)]
     rfl
   . have ih := logGo_at l t hnd hlt n (by omega) i (by omega)
     have hne : l.getD n 0 ≠ l.getD i 0 := by
      have e1 : l.getD n 0 = l[n] := by simp [List.getD,show n < l.length by omega]
      have e2 : l.getD i 0 = l[i] := by simp [List.getD,show i < l.length by omega]
      rw [e1,e2]
      intro he
      exact List.pairwise_iff_getElem.1 hnd i n (by omega) (by omega) (by omega) he.symm
     show ((logGo l t n).set (l.getD n 0) n).getD (l.getD i 0) 0 = i
     generalize l.getD n 0 = a at *
     generalize l.getD i 0 = b at *
     generalize (logGo l t n) = u at *
     simp only [List.getD] at ih ⊢
     rw [List.getElem?_set_ne hne]
     exact ih
def mulT (l lg : List Nat) (q x y : Nat) : Nat := if x = 0 \/ y = 0 then 0 else l.getD ((lg.getD x 0 + lg.getD y 0) % (q - 1)) 0
def invT (l lg : List Nat) (q x : Nat) : Nat := l.getD ((q - 1 - lg.getD x 0) % (q - 1)) 0
theorem Tab.log (H : Mon q mul) {l : List Nat} (T : Tab q mul l) {a : Nat} (h0 : a ≠ 0) (ha : a < q) :
 (logL l q).getD a 0 < q - 1 /\ l.getD ((logL l q).getD a 0) 0 = a := by
 have hm := T.full H h0 ha
 obtain ⟨i,hi,e⟩ := List.mem_iff_getElem.1 hm
 have e2 : l.getD i 0 = a := by simp [List.getD,hi,e]
 have := logGo_at l (List.replicate q 0) T.nd (by simpa using T.lt) l.length (Nat.le_refl _) i hi
 unfold logL
 rw [e2] at this
 rw [this]
 exact ⟨by rw [<- T.len];exact hi,e2⟩
theorem Tab.get {l : List Nat} (T : Tab q mul l) : ∃ x,1 <= x /\ x < q /\ pw mul x (q - 1) = 1 /\ ∀ i,i < q - 1 -> l.getD i 0 = pw mul x i := by
 obtain ⟨x,h1,h2,rfl,h3⟩ := T.ex
 exact ⟨x,h1,h2,h3,fun i hi => by simp [pl,List.getD,hi]⟩
theorem Tab.mul_eq (H : Mon q mul) {l : List Nat} (T : Tab q mul l) {x y : Nat} (hx : x < q) (hy : y < q) : mulT l (logL l q) q x y = mul x y := by
 unfold mulT
 by_cases h : x = 0 \/ y = 0
 . rw [if_pos h]
   rcases h with rfl | rfl
   . rw [H.zero]
   . rw [H.comm,H.zero]
 . rw [if_neg h]
   have hx0 : x ≠ 0 := fun e => h (.inl e)
   have hy0 : y ≠ 0 := fun e => h (.inr e)
   obtain ⟨a1,a2⟩ := T.log H hx0 hx
   obtain ⟨b1,b2⟩ := T.log H hy0 hy
   obtain ⟨z,_,_,hz,hg⟩ := T.get
   have hq := H.q1
   rw [hg _ (Nat.mod_lt _ (by omega)),pw_mod H hz,pw_add H,<- hg _ a1,<- hg _ b1,a2,b2]
theorem Tab.inv (H : Mon q mul) {l : List Nat} (T : Tab q mul l) {x : Nat} (h0 : x ≠ 0) (hx : x < q) : mul x (invT l (logL l q) q x) = 1 /\ invT l (logL l q) q x < q /\ invT l (logL l q) q x ≠ 0 := by
 obtain ⟨a1,a2⟩ := T.log H h0 hx
 obtain ⟨z,_,_,hz,hg⟩ := T.get
 have hq := H.q1
 have e : invT l (logL l q) q x = pw mul z (q - 1 - (logL l q).getD x 0) := by
  unfold invT
  rw [hg _ (Nat.mod_lt _ (by omega)),pw_mod H hz]
 rw [e]
 have h1 : mul x (pw mul z (q - 1 - (logL l q).getD x 0)) = 1 := by
  have hx2 : x = pw mul z ((logL l q).getD x 0) := by rw [<- hg _ a1,a2]
  generalize (logL l q).getD x 0 = i at *
  rw [hx2,<- pw_add H,show i + (q - 1 - i) = q - 1 by omega,hz]
 refine ⟨h1,pw_lt H z _,fun h => ?_⟩
 rw [h,H.comm,H.zero] at h1
 exact absurd h1 (by omega)
end
def mulM (p m : Nat) (md : List Nat) (x y : Nat) : Nat := val p (mulL p m md (digs p m x) (digs p m y))
theorem mulM_dig {p m : Nat} (hp : 0 < p) (md : List Nat) (x y : Nat) : digs p m (mulM p m md x y) = mulL p m md (digs p m x) (digs p m y) := by
 have h := qbI (m := m) hp md (digs p m x) (digs p m y)
 have := digs_val hp _ h.2
 rw [h.1] at this
 exact this
theorem F_digs_zero (p m : Nat) : F (digs p m 0) = fun _ => 0 := by
 have : ∀ m,digs p m 0 = List.replicate m 0 := by
  intro m
  induction m with
  | zero => rfl
  | succ m ih => simp [digs,ih,List.replicate_succ]
 rw [this,F_zero]
theorem digs_zero (p : Nat) : ∀ m,digs p m 0 = List.replicate m 0
 | 0 => rfl
 | m + 1 => by simp [digs,digs_zero p m,List.replicate_succ]
theorem val_zero (p : Nat) : ∀ m,val p (List.replicate m 0) = 0
 | 0 => rfl
 | m + 1 => by simp [val,val_zero p m,List.replicate_succ]
theorem F_digs_one {p m : Nat} (hp : 1 < p) (hm : 0 < m) : F (digs p m 1) = un := by
 obtain ⟨n,rfl⟩ : ∃ n,m = n + 1 := ⟨m - 1,by omega⟩
 have e : digs p (n + 1) 1 = 1 :: List.replicate n 0 := by
  simp only [digs]
  rw [Nat.mod_eq_of_lt hp,Nat.div_eq_of_lt hp,digs_zero]
 rw [e]
 funext j
 cases j with
 | zero => rfl
 | succ j => rw [F_cons,F_zero];rfl
theorem dig_zero_of {p m : Nat} {l : List Nat} (h : Dig p m l) (hc : Cg p (F l) (fun _ => 0)) : l = List.replicate m 0 := by
 refine F_inj (p := p) (by simp [h.1]) h.2 ?_ ?_
 . intro d hd
   have hp : 0 < p := by
    cases l with
    | nil => have := h.1;simp at this;subst this;simp at hd
    | cons a r => have := h.2 a (List.mem_cons_self ..);omega
   simp at hd
   omega
 . rw [F_zero]
   exact hc
theorem qbY {p m : Nat} (hp : 1 < p) (hm : 0 < m) (md : List Nat) : Mon (p ^ m) (mulM p m md) where
 lt x y := by
  have h := qbI (m := m) (by omega : 0 < p) md (digs p m x) (digs p m y)
  have := val_lt (by omega : 0 < p) _ h.2
  rw [h.1] at this
  exact this
 comm x y := by unfold mulM;rw [mulL_comm (by omega) md _ _ (qbB p m x) (qbB p m y)]
 assoc x y z := by
  show val p (mulL p m md (digs p m (mulM p m md x y)) (digs p m z)) = val p (mulL p m md (digs p m x) (digs p m (mulM p m md y z)))
  rw [mulM_dig (by omega),mulM_dig (by omega),mulL_assoc (by omega) md _ _ _ (qbB p m x) (qbB p m y) (qbB p m z)]
 one x hx := by
  have h := qbI (m := m) (by omega : 0 < p) md (digs p m 1) (digs p m x)
  have h2 := digs_dig (by omega : 0 < p) m x
  have e : mulL p m md (digs p m 1) (digs p m x) = digs p m x := by
   refine F_inj (p := p) (h.1.trans h2.1.symm) h.2 h2.2 ?_
   refine (qcO (by omega) md _ _ (qbB p m 1) (qbB p m x)).trans (Cg.of_eq ?_)
   rw [F_digs_one hp hm,mz_un]
   funext j
   by_cases hj : j < m
   . rw [if_pos hj]
   . rw [if_neg hj,F_supp (m := m) (by rw [h2.1];exact Nat.le_refl _) j (by omega)]
  unfold mulM
  rw [e,val_digs (by omega) m x hx]
 zero x := by
  have h := qbI (m := m) (by omega : 0 < p) md (digs p m 0) (digs p m x)
  have e : mulL p m md (digs p m 0) (digs p m x) = List.replicate m 0 := by
   refine dig_zero_of h ?_
   refine (qcO (by omega) md _ _ (qbB p m 0) (qbB p m x)).trans (Cg.of_eq ?_)
   rw [F_digs_zero]
   exact pol_zero m _ _ m
  unfold mulM
  rw [e,val_zero]
 q1 := Nat.one_lt_pow (by omega) hp
def G (m : Nat) (md : Vec) (low : List Nat) : Vec := fun k => shN m md low.length un k + pol m md (F low) low.length un k
end Go.Proofs.YtaddcadapbpkfaaGreatDoor.Pln
namespace Go.Proofs.YtaddcadapbpkfaaGreatDoor.Pln
section
variable {q : Nat} {mul : Nat -> Nat -> Nat}
end
def force {α : Type} (n : Nat) (f : Nat -> α) : α := Nat.rec (f 0) (fun k _ => f (k + 1)) n
def fl {α : Type} : List Nat -> (List Nat -> α) -> α
 | [],k => k []
 | x :: r,k => force x fun y => fl r fun s => k (y :: s)
def primeB (n : Nat) : Bool := (List.range n).all fun d => Nat.blt d 2 || n % d != 0
set_option maxRecDepth 100000
end Go.Proofs.YtaddcadapbpkfaaGreatDoor.Pln
namespace Go.Proofs.YtaddcadapbpkfaaGreatDoor.Pln
def addD (p : Nat) : Nat -> Nat -> Nat -> Nat
 | 0,_,_ => 0
 | k + 1,x,y => (x % p + y % p) % p + p * addD p k (x / p) (y / p)
def negD (p : Nat) : Nat -> Nat -> Nat
 | 0,_ => 0
 | k + 1,x => (p - x % p) % p + p * negD p k (x / p)
theorem addD_zero (p : Nat) : ∀ k,addD p k 0 0 = 0
 | 0 => rfl
 | k + 1 => by simp [addD,addD_zero p k]
theorem negD_zero (p : Nat) : ∀ k,negD p k 0 = 0
 | 0 => rfl
 | k + 1 => by simp [negD,negD_zero p k]
theorem lt_pow_succ {p k d r : Nat} (hd : d < p) (hr : r < p ^ k) : d + p * r < p ^ (k + 1) := by
 rw [Nat.pow_succ,Nat.mul_comm (p ^ k) p]
 have : p * (r + 1) <= p * p ^ k := Nat.mul_le_mul_left _ hr
 rw [Nat.mul_add,Nat.mul_one] at this
 omega
theorem addD_lt {p : Nat} (hp : 0 < p) : ∀ k x y,addD p k x y < p ^ k
 | 0,_,_ => by simp [addD]
 | k + 1,x,y => lt_pow_succ (Nat.mod_lt _ hp) (addD_lt hp k _ _)
theorem negD_lt {p : Nat} (hp : 0 < p) : ∀ k x,negD p k x < p ^ k
 | 0,_ => by simp [negD]
 | k + 1,x => lt_pow_succ (Nat.mod_lt _ hp) (negD_lt hp k _)
theorem xor_mod2 (x y : Nat) : (x ^^^ y) % 2 = (x + y) % 2 := by
 have h := @Nat.xor_mod_two_pow x y 1
 simp only [Nat.pow_one] at h
 rw [h]
 rcases Nat.mod_two_eq_zero_or_one x with hx | hx <;> rcases Nat.mod_two_eq_zero_or_one y with hy | hy <;> rw [hx,hy] <;> simp <;> omega
theorem xor_addD : ∀ k x y,x < 2 ^ k -> y < 2 ^ k -> x ^^^ y = addD 2 k x y
 | 0,x,y,hx,hy => by
   simp at hx hy
   subst hx hy
   rfl
 | k + 1,x,y,hx,hy => by
   have ih := xor_addD k (x / 2) (y / 2) (by rw [Nat.pow_succ] at hx;omega) (by rw [Nat.pow_succ] at hy;omega)
   have h1 : (x ^^^ y) / 2 = x / 2 ^^^ y / 2 := Nat.xor_div_two
   have h2 : (x ^^^ y) % 2 = (x + y) % 2 := xor_mod2 x y
   simp only [addD]
   omega
structure Ops where
 add : Nat -> Nat -> Nat
 mul : Nat -> Nat -> Nat
 neg : Nat -> Nat
 inv : Nat -> Nat
def at2 (rows : List (List Nat)) (i c : Nat) : Nat := (rows.getD i []).getD c 0
def addRow (O : Ops) (v : List Nat) (a : Nat) (u : List Nat) : List Nat := List.zipWith (fun x y => if y = 0 then x else O.add x (O.mul a y)) v u
def scaleRow (O : Ops) (a : Nat) (v : List Nat) : List Nat := v.map (O.mul a)
def findRow (rows : List (List Nat)) (c : Nat) : Nat -> Nat -> Nat
 | 0,k => k
 | g + 1,k => if at2 rows k c = 0 then findRow rows c g (k + 1) else k
def swapRows (rows : List (List Nat)) (i j : Nat) : List (List Nat) := (rows.set i (rows.getD j [])).set j (rows.getD i [])
def normRow (O : Ops) (rows : List (List Nat)) (i c : Nat) : List (List Nat) := if at2 rows i c = 1 then rows else rows.set i (scaleRow O (O.inv (at2 rows i c)) (rows.getD i []))
def clearGo (O : Ops) (c t : Nat) (rows : List (List Nat)) : Nat -> List (List Nat)
 | 0 => rows
 | i + 1 => if i ≠ t /\ at2 (clearGo O c t rows i) i c ≠ 0 then (clearGo O c t rows i).set i (addRow O ((clearGo O c t rows i).getD i []) (O.neg (at2 (clearGo O c t rows i) i c)) ((clearGo O c t rows i).getD t [])) else clearGo O c t rows i
structure ElS where
 rows : List (List Nat)
 piv : List Nat
def elStep (O : Ops) (c : Nat) (s : ElS) : ElS :=
 if s.piv.length < s.rows.length then
  if findRow s.rows c (s.rows.length - s.piv.length) s.piv.length = s.rows.length then s
  else ⟨clearGo O c s.piv.length (normRow O (swapRows s.rows s.piv.length (findRow s.rows c (s.rows.length - s.piv.length) s.piv.length)) s.piv.length c) s.rows.length,s.piv ++ [c]⟩
 else s
def elGo (O : Ops) (rows : List (List Nat)) : Nat -> ElS
 | 0 => ⟨rows,[]⟩
 | c + 1 => elStep O c (elGo O rows c)
def canonM (O : Ops) (rows : List (List Nat)) (cols : Nat) : List (List Nat) := (elGo O rows cols).rows.take (elGo O rows cols).piv.length
def Grid (q n cols : Nat) (rows : List (List Nat)) : Prop := rows.length = n /\ ∀ r ∈ rows,r.length = cols /\ ∀ x ∈ r,x < q
structure OpsEq (q : Nat) (O O' : Ops) : Prop where
 add : ∀ x y,x < q -> y < q -> O.add x y = O'.add x y /\ O.add x y < q
 mul : ∀ x y,x < q -> y < q -> O.mul x y = O'.mul x y /\ O.mul x y < q
 neg : ∀ x,x < q -> O.neg x = O'.neg x /\ O.neg x < q
 inv : ∀ x,x < q -> x ≠ 0 -> O.inv x = O'.inv x /\ O.inv x < q
section
variable {q n cols : Nat} {O O' : Ops}
theorem Grid.row {rows : List (List Nat)} (h : Grid q n cols rows) {i : Nat} (hi : i < n) : (rows.getD i []).length = cols /\ ∀ x ∈ rows.getD i [],x < q := by
 have : rows.getD i [] = rows[i]'(by rw [h.1];exact hi) := by simp [List.getD,h.1,hi]
 rw [this]
 exact h.2 _ (List.getElem_mem _)
theorem Grid.at_ {rows : List (List Nat)} (h : Grid q n cols rows) {i c : Nat} (hi : i < n) (hc : c < cols) : at2 rows i c < q := by
 obtain ⟨h1,h2⟩ := h.row hi
 unfold at2
 have : (rows.getD i []).getD c 0 = (rows.getD i [])[c]'(by omega) := by simp [List.getD,show c < (rows[i]?.getD []).length from by simpa [List.getD] using (by omega : c < (rows.getD i []).length)]
 rw [this]
 exact h2 _ (List.getElem_mem _)
theorem Grid.set {rows : List (List Nat)} (h : Grid q n cols rows) (i : Nat) {r : List Nat} (hr : r.length = cols /\ ∀ x ∈ r,x < q) : Grid q n cols (rows.set i r) := by
 refine ⟨by simp [h.1],fun s hs => ?_⟩
 rcases List.mem_or_eq_of_mem_set hs with h' | rfl
 . exact h.2 _ h'
 . exact hr
theorem addRow_eq (E : OpsEq q O O') {v u : List Nat} {a : Nat} (ha : a < q) (hv : ∀ x ∈ v,x < q) (hu : ∀ x ∈ u,x < q) : addRow O v a u = addRow O' v a u /\ ∀ x ∈ addRow O v a u,x < q := by
 induction v generalizing u with
 | nil => simp [addRow]
 | cons x v ih =>
   cases u with
   | nil => simp [addRow]
   | cons y u =>
     have hx := hv x (List.mem_cons_self ..)
     have hy := hu y (List.mem_cons_self ..)
     obtain ⟨i1,i2⟩ := ih (fun z hz => hv z (List.mem_cons_of_mem _ hz)) (fun z hz => hu z (List.mem_cons_of_mem _ hz))
     obtain ⟨m1,m2⟩ := E.mul a y ha hy
     obtain ⟨s1,s2⟩ := E.add x (O.mul a y) hx m2
     unfold addRow at i1 i2 ⊢
     simp only [List.zipWith_cons_cons,i1]
     refine ⟨?_,?_⟩
     . by_cases h0 : y = 0
       . simp [h0]
       . simp only [if_neg h0]
         rw [s1,m1]
     . intro z hz
       rcases List.mem_cons.1 hz with rfl | hz
       . by_cases h0 : y = 0
         . simp only [if_pos h0];exact hx
         . simp only [if_neg h0];exact s2
       . rw [<- i1] at hz;exact i2 z hz
theorem scaleRow_eq (E : OpsEq q O O') {v : List Nat} {a : Nat} (ha : a < q) (hv : ∀ x ∈ v,x < q) : scaleRow O a v = scaleRow O' a v /\ ∀ x ∈ scaleRow O a v,x < q := by
 unfold scaleRow
 refine ⟨List.map_congr_left fun x hx => (E.mul a x ha (hv x hx)).1,fun z hz => ?_⟩
 obtain ⟨x,hx,rfl⟩ := List.mem_map.1 hz
 exact (E.mul a x ha (hv x hx)).2
theorem findRow_le (rows : List (List Nat)) (c : Nat) : ∀ g k,k <= findRow rows c g k /\ findRow rows c g k <= k + g
 | 0,k => by simp [findRow]
 | g + 1,k => by
   unfold findRow
   split
   . have := findRow_le rows c g (k + 1);omega
   . omega
theorem findRow_ne (rows : List (List Nat)) (c : Nat) : ∀ g k,findRow rows c g k < k + g -> at2 rows (findRow rows c g k) c ≠ 0
 | 0,k => by simp [findRow]
 | g + 1,k => by
   unfold findRow
   split
   . intro h;exact findRow_ne rows c g (k + 1) (by omega)
   . intro _;assumption
theorem swap_grid {rows : List (List Nat)} (h : Grid q n cols rows) {i j : Nat} (hi : i < n) (hj : j < n) : Grid q n cols (swapRows rows i j) := (h.set i (h.row hj)).set j (h.row hi)
theorem swap_at {rows : List (List Nat)} {i j : Nat} (hi : i < rows.length) (hj : j < rows.length) : (swapRows rows i j).getD i [] = rows.getD j [] := by
 unfold swapRows
 by_cases h : i = j
 . subst h;simp [List.getD,hi]
 . simp only [List.getD]
   rw [List.getElem?_set_ne (by omega),List.getElem?_set_self (by simpa using hi)]
   rfl
theorem norm_eq (E : OpsEq q O O') {rows : List (List Nat)} (h : Grid q n cols rows) {i c : Nat} (hi : i < n) (hc : c < cols) (h0 : at2 rows i c ≠ 0) : normRow O rows i c = normRow O' rows i c /\ Grid q n cols (normRow O rows i c) := by
 obtain ⟨v1,v2⟩ := E.inv _ (h.at_ hi hc) h0
 obtain ⟨r1,r2⟩ := h.row hi
 obtain ⟨s1,s2⟩ := scaleRow_eq E v2 r2
 unfold normRow
 rw [<- v1,s1]
 refine ⟨rfl,?_⟩
 split
 . exact h
 . rw [<- s1]
   exact h.set i ⟨by unfold scaleRow;rw [List.length_map];exact r1,s2⟩
theorem clear_eq (E : OpsEq q O O') {rows : List (List Nat)} (h : Grid q n cols rows) {c t : Nat} (hc : c < cols) (ht : t < n) : ∀ i,i <= n -> clearGo O c t rows i = clearGo O' c t rows i /\ Grid q n cols (clearGo O c t rows i)
 | 0,_ => ⟨rfl,h⟩
 | i + 1,hi => by
   obtain ⟨e,g⟩ := clear_eq E h hc ht i (by omega)
   obtain ⟨v1,v2⟩ := E.neg _ (g.at_ (i := i) (by omega) hc)
   obtain ⟨r1,r2⟩ := g.row (i := i) (by omega)
   obtain ⟨t1,t2⟩ := g.row ht
   obtain ⟨s1,s2⟩ := addRow_eq E v2 r2 t2
   unfold clearGo
   rw [<- e,<- v1,s1]
   refine ⟨rfl,?_⟩
   split
   . rw [<- s1]
     exact g.set i ⟨by unfold addRow;rw [List.length_zipWith,r1,t1,Nat.min_self],s2⟩
   . exact g
theorem elStep_eq (E : OpsEq q O O') {c : Nat} (hc : c < cols) {s : ElS} (h : Grid q n cols s.rows) : elStep O c s = elStep O' c s /\ Grid q n cols (elStep O c s).rows := by
 unfold elStep
 by_cases h1 : s.piv.length < s.rows.length
 . simp only [if_pos h1]
   have hf := findRow_le s.rows c (s.rows.length - s.piv.length) s.piv.length
   by_cases h2 : findRow s.rows c (s.rows.length - s.piv.length) s.piv.length = s.rows.length
   . simp only [if_pos h2]
     exact ⟨trivial,h⟩
   . simp only [if_neg h2]
     have hne := findRow_ne s.rows c (s.rows.length - s.piv.length) s.piv.length (by omega)
     generalize findRow s.rows c (s.rows.length - s.piv.length) s.piv.length = k at *
     have hk : k < s.rows.length := by omega
     have hln := h.1
     have g1 := swap_grid h (i := s.piv.length) (j := k) (by omega) (by omega)
     have e1 : at2 (swapRows s.rows s.piv.length k) s.piv.length c ≠ 0 := by
      unfold at2 at hne ⊢
      rw [swap_at (by omega) (by omega)]
      exact hne
     obtain ⟨n1,n2⟩ := norm_eq E g1 (i := s.piv.length) (by omega) hc e1
     obtain ⟨c1,c2⟩ := clear_eq E n2 (t := s.piv.length) hc (by omega) n (Nat.le_refl _)
     rw [hln]
     exact ⟨by rw [c1,n1],c2⟩
 . simp only [if_neg h1]
   exact ⟨trivial,h⟩
theorem elGo_eq (E : OpsEq q O O') {rows : List (List Nat)} (h : Grid q n cols rows) : ∀ c,c <= cols -> elGo O rows c = elGo O' rows c /\ Grid q n cols (elGo O rows c).rows
 | 0,_ => ⟨rfl,h⟩
 | c + 1,hc => by
   obtain ⟨e,g⟩ := elGo_eq E h c (by omega)
   have := elStep_eq E (c := c) (by omega) g
   unfold elGo
   rw [<- e]
   exact this
end
end Go.Proofs.YtaddcadapbpkfaaGreatDoor.Pln
