/-
 Plain: the claims of the rules 0, 1 and 3. Plain: a field in a greater one. Plain: zeros in a run bound the weight. Plain: powers, orders, images and values as elements of the field.
-/
import Derived.Test.YtlmglaonldlanaaGreatQ47
import Derived.Test.YtlmglaonldlanaaGreatQ30
import Derived.Test.YtlmglaonldlanaaGreatQ16
import Derived.Test.YtlmglaonldlanaaGreatQ43
import Derived.Test.YtlmglaonldlanaaGreatQ42
namespace Go.Proofs.YtlmglaonldlanaaGreat
open Go.RowKit Pln
open Al
theorem combO_eq {q n:Nat} {O O':Ops} (E:OpsEq q O O') {rows:List (List Nat)} (hr:∀ r∈rows,Dv.Ok q n r):∀ (msg out:List Nat),(∀ x∈msg,x<q)->Dv.Ok q n out->Dv.combO O' out msg rows=Dv.combO O out msg rows:=by
 induction rows with
 | nil=>intro msg out _ _;cases msg <;> rfl
 | cons r rs ih =>
   intro msg out hm ho
   cases msg with
   | nil=>rfl
   | cons x xs =>
     unfold Dv.combO
     obtain ⟨r1,r2⟩:=hr r List.mem_cons_self
     have hx:=hm x List.mem_cons_self
     obtain ⟨e1,e2⟩:=addRow_eq E hx ho.2 r2
     by_cases h0:x=0
     . rw [if_pos h0,if_pos h0]
       exact ih (fun y hy=>hr y (List.mem_cons_of_mem _ hy)) xs out (fun y hy=>hm y (List.mem_cons_of_mem _ hy)) ho
     . rw [if_neg h0,if_neg h0,<- e1]
       exact ih (fun y hy=>hr y (List.mem_cons_of_mem _ hy)) xs _ (fun y hy=>hm y (List.mem_cons_of_mem _ hy)) ⟨by unfold Pln.addRow;rw [List.length_zipWith,ho.1,r1,Nat.min_self],e2⟩
theorem cw_lin {s:StD} (hf:formZ s=0) {hfl:Fld (s.p.toNat ^ s.m.toNat) (opsS s)} {Q:(Nat->El (s.p.toNat ^ s.m.toNat) (opsS s) hfl)->Prop} (L:LinF (s.p.toNat ^ s.m.toNat) (opsS s) hfl Q) (hr:∀ r∈natR s.gen,Q (wd hfl r)) {msg:List Nat} (hm:∀ x∈msg,x<s.p.toNat ^ s.m.toNat) :
 Q (wd hfl (cwO s.p.toNat s.m.toNat (mdOf s.m s.mod) s.n.toNat (natR s.gen) msg))/\Dv.Ok (s.p.toNat ^ s.m.toNat) s.n.toNat (cwO s.p.toNat s.m.toNat (mdOf s.m s.mod) s.n.toNat (natR s.gen) msg):=by
 have hF:=qfO hf
 have hft:=qaW hF.field
 have hq1:=(fld_of hft).q1
 have hmd:(mdOf s.m s.mod).length=s.m.toNat:=by
  have hs:=qbJ (by have h:=hF.field;unfold fieldOK at h;rw [Bool.and_eq_true] at h;exact h.1:shapeM s.p s.m s.mod=true)
  by_cases hm1:s.m=1
  . rw [hm1];simp [mdOf]
  . unfold mdOf
    rw [if_neg hm1,List.length_map,hs.len hm1]
 have hz:Dv.Ok (s.p.toNat ^ s.m.toNat) s.n.toNat (List.replicate s.n.toNat 0):=⟨by simp,fun x hx=>by rw [(List.mem_replicate.1 hx).2];omega⟩
 have hro:∀ r∈natR s.gen,Dv.Ok (s.p.toNat ^ s.m.toNat) s.n.toNat r:=fun r h=>hF.grid.2 r h
 have hoe:OpsEq (s.p.toNat ^ s.m.toNat) (opsS s) (refOps s.p.toNat s.m.toNat (mdOf s.m s.mod)):=ops_eq hft hmd
 have e:=combO_eq hoe hro msg _ hm hz
 unfold cwO
 rw [e]
 refine L.comb (fun r h=>⟨hro r h,hr r h⟩) msg _ hm hz ?_
 rw [show wd hfl (List.replicate s.n.toNat 0)=fun _=>0 from funext fun j=>wd_zero _ _]
 exact L.zero
theorem form_canon {d:StD} (hf:formZ d=0):canonM (opsS d) (natR d.gen) d.n.toNat=natR d.gen:=by
 obtain ⟨_,_,h3⟩:=codeZ_n (form_codeZ hf)
 unfold spZ at h3
 rw [if_neg (by rw [form_err hf];simp)] at h3
 split at h3
 . rename_i h
   have h2:natR (nzs (canZ d.p d.m d.mod d.n d.gen))=canZ d.p d.m d.mod d.n d.gen:=natR_nzs _
   rw [h] at h2
   exact h2.symm
 . cases h3
theorem leaf_law1 {s:StD} (hf:formZ s=0) (h:Leaf1 s) {msg:List Nat} (hm:∀ x∈msg,x<s.p.toNat ^ s.m.toNat) (h0:Dv.wt (cwO s.p.toNat s.m.toNat (mdOf s.m s.mod) s.n.toNat (natR s.gen) msg)≠0):s.low<=(Dv.wt (cwO s.p.toNat s.m.toNat (mdOf s.m s.mod) s.n.toNat (natR s.gen) msg):Int):=by
 have hF:=qfO hf
 rcases h with h | ⟨h3,hc⟩
 . omega
 . have hfl : Fld (s.p.toNat ^ s.m.toNat) (opsS s) := fld_of (qaW hF.field)
   have H:=El.fd (h:=hfl)
   have hkg:=ker_grid hfl hF.grid
   have L:LinF (s.p.toNat ^ s.m.toNat) (opsS s) hfl fun f=>∀ u∈kerM (opsS s) (natR s.gen) s.n.toNat,sm s.n.toNat (fun j=>f j*wd hfl u j)=0:=by
    refine ⟨fun g _=>H.sm_zero fun j _=>H.zmul _,fun f g a hf hg u hu=>?_⟩
    have e:sm s.n.toNat (fun j=>(f j+a*g j)*wd hfl u j)=sm s.n.toNat (fun j=>f j*wd hfl u j+a*(g j*wd hfl u j)):=H.sm_congr fun j _=>by
     rw [H.rdist,H.mulA]
    rw [e,H.sm_lin,hf u hu,hg u hu,H.mulZ,H.addZ]
   obtain ⟨hq,hok⟩:=cw_lin hf L (fun g hg u hu=>ker_orth (h:=hfl) hF.grid u hu g (by rw [form_canon hf];exact hg)) hm
   have hb:=cols_wt (low:=s.low.toNat) hfl hc (fun r hr=>(hkg.2 r hr).2) hok hq h0 (by omega) (fun h=>decide_eq_true (by have:=hF.low1;omega))
   omega
theorem leaf_law3 {s:StD} (hf:formZ s=0) (h:Leaf3 s) {msg:List Nat} (hm:∀ x∈msg,x<s.p.toNat ^ s.m.toNat) (h0:Dv.wt (cwO s.p.toNat s.m.toNat (mdOf s.m s.mod) s.n.toNat (natR s.gen) msg)≠0):s.low<=(Dv.wt (cwO s.p.toNat s.m.toNat (mdOf s.m s.mod) s.n.toNat (natR s.gen) msg):Int):=by
 obtain ⟨L,M,K,hN,hn,hg,hK,hlo⟩:=h
 have hF:=qfO hf
 have hfl:Fld (s.p.toNat ^ s.m.toNat) (opsS s):=fld_of (qaW hF.field)
 have H:=El.fd (h:=hfl)
 have hnl:s.n.toNat=L.length:=by omega
 have hgr:Grid (s.p.toNat ^ s.m.toNat) K L.length (genG (opsS s) M L K):=genG_grid (fun x y hx hy=>qcZ (qaW hF.field) hx hy) hN.mq hN.lq hN.len
 have hnr:natR s.gen=finG s.p s.m s.mod L M K:=by
  have h1:=hF.rows
  rw [hg] at h1
  have h2:natR (nzs (finG s.p s.m s.mod L M K))=finG s.p s.m s.mod L M K:=natR_nzs _
  rw [hg,h2]
 have hP:=(polW_lin hfl M L L.length K).canon hgr (fun r hr=>by
  obtain ⟨k,hk,rfl⟩:=List.mem_map.1 hr
  have hkK:k<K:=by simpa using hk
  obtain ⟨l,hl1,hl2⟩:=ev_mono H k K hkK
  refine ⟨l,hl1,fun j hj=>?_⟩
  rw [wd_rowG hN.mq hN.lq hN.len j hj,hl2])
 obtain ⟨hq,hok⟩:=cw_lin hf (polW_lin hfl M L L.length K) (fun r hr=>hP r (by rw [hnr] at hr;exact hr)) hm
 rw [hnl] at hok hq h0
 have:=gen_wt hfl hN.mq hN.lq hN.len hN.m0 hN.dis hok hq h0
 rw [hnl]
 have hk1:=hN.k1
 omega
end Go.Proofs.YtlmglaonldlanaaGreat
namespace Go.Proofs.YtlmglaonldlanaaGreat
open Pln
namespace Al

section
variable {q : Nat} {O : Ops} {h : Fld q O}
/-- One, so many times. -/
def cst (h : Fld q O) : Nat → El q O h
  | 0 => 0
  | n + 1 => cst h n + 1
theorem cst_add (a : Nat) : ∀ b, cst h (a + b) = cst h a + cst h b
  | 0 => ((El.fd (h := h)).zadd _).symm
  | b + 1 => by
    show cst h (a + b) + 1 = cst h a + (cst h b + 1)
    rw [cst_add a b, (El.fd (h := h)).addA]
theorem cst_mul (a : Nat) : ∀ b, cst h (a * b) = cst h a * cst h b
  | 0 => ((El.fd (h := h)).mulZ _).symm
  | b + 1 => by
    have H := El.fd (h := h)
    rw [Nat.mul_succ, cst_add, cst_mul a b]
    show _ = cst h a * (cst h b + 1)
    rw [H.dist, H.umul]
/-- Numbers below p are what one, added so often, is. -/
structure Chr (q : Nat) (O : Ops) (h : Fld q O) (p : Nat) : Prop where
  p1 : 2 ≤ p
  pq : p ≤ q
  add : ∀ a b, a < p → b < p → O.add a b = (a + b) % p
section
variable {p : Nat} (C : Chr q O h p)
theorem Chr.of (C : Chr q O h p) : ∀ x, x < p → El.of h x = cst h x
  | 0, _ => El.of_zero
  | x + 1, hx => by
    have hp1 := C.p1
    have hpq := C.pq
    have ih := Chr.of C x (by omega)
    have e := C.add x 1 (by omega) (by omega)
    rw [Nat.mod_eq_of_lt hx] at e
    show El.of h (x + 1) = cst h x + 1
    rw [← ih, ← El.of_one, ← El.of_add (by omega) (by omega), e]
theorem Chr.zero (C : Chr q O h p) : cst h p = 0 := by
  have hp1 := C.p1
  have hpq := C.pq
  have e := C.add (p - 1) 1 (by omega) (by omega)
  rw [show p - 1 + 1 = p by omega, Nat.mod_self] at e
  have e2 := El.of_add (h := h) (x := p - 1) (y := 1) (by omega) (by omega)
  have e3 : El.of h (p - 1) = cst h (p - 1) := C.of _ (by omega)
  rw [e, e3, El.of_zero, El.of_one] at e2
  rw [show p = p - 1 + 1 by omega]
  exact e2.symm
theorem Chr.mod (C : Chr q O h p) (n : Nat) : cst h (n % p) = cst h n := by
  have H := El.fd (h := h)
  have e : cst h n = cst h (p * (n / p) + n % p) := by rw [Nat.div_add_mod]
  rw [e, cst_add, cst_mul, C.zero, H.zmul, H.addZ]
end
/-- The value of a list of digits at r. -/
def Es (h : Fld q O) (r : El q O h) (m : Nat) (l : List Nat) : El q O h := sm m fun j => cst h (l.getD j 0) * pwr r j
theorem Es_step {p m : Nat} (C : Chr q O h p) {r : El q O h} {md a out : List Nat} {bi : Nat} (hm : 0 < m) (ho : Dig p m out) (hr : Es h r m md + pwr r m = 0) :
    Es h r m (stepM p m md a bi out) = r * Es h r m out + cst h bi * Es h r m a := by
  have H := El.fd (h := h)
  obtain ⟨k, rfl⟩ : ∃ k, m = k + 1 := ⟨m - 1, by omega⟩
  have htop : out.getD k 0 < p := Pln.getD_lt (by have := C.p1; omega) ho k
  have ht : cst h (p - out.getD k 0) = -cst h (out.getD k 0) := by
    refine H.negu ?_
    rw [← cst_add, show out.getD k 0 + (p - out.getD k 0) = p by omega, C.zero]
  -- the entries
  have e1 : Es h r (k + 1) (stepM p (k + 1) md a bi out) = sm (k + 1) (fun j => (cst h (if j = 0 then 0 else out.getD (j - 1) 0) * pwr r j + -cst h (out.getD k 0) * (cst h (md.getD j 0) * pwr r j)) + cst h bi * (cst h (a.getD j 0) * pwr r j)) := by
    unfold Es
    refine H.sm_congr fun j hj => ?_
    have e : (stepM p (k + 1) md a bi out).getD j 0 = ((if j = 0 then 0 else out.getD (j - 1) 0) + (p - out.getD k 0) * md.getD j 0 + bi * a.getD j 0) % p := by
      unfold stepM
      simp [List.getD, hj]
    rw [e, C.mod, cst_add, cst_add, cst_mul, cst_mul, ht, H.rdist, H.rdist, H.mulA, H.mulA]
  have e2 : sm (k + 1) (fun j => cst h (if j = 0 then 0 else out.getD (j - 1) 0) * pwr r j) + cst h (out.getD k 0) * pwr r (k + 1) = r * Es h r (k + 1) out := by
    unfold Es
    rw [← H.sm_mul]
    have e3 : ∀ n, sm (n + 1) (fun j => cst h (if j = 0 then 0 else out.getD (j - 1) 0) * pwr r j) = sm n (fun j => r * (cst h (out.getD j 0) * pwr r j)) := by
      intro n
      induction n with
      | zero =>
        show 0 + cst h (if 0 = 0 then 0 else out.getD (0 - 1) 0) * pwr r 0 = 0
        rw [if_pos rfl]
        show 0 + 0 * pwr r 0 = (0 : El q O h)
        rw [H.zmul, H.addZ]
      | succ n ih =>
        show sm (n + 1) (fun j => cst h (if j = 0 then 0 else out.getD (j - 1) 0) * pwr r j) + cst h (if n + 1 = 0 then 0 else out.getD (n + 1 - 1) 0) * pwr r (n + 1) = sm n (fun j => r * (cst h (out.getD j 0) * pwr r j)) + r * (cst h (out.getD n 0) * pwr r n)
        rw [ih, if_neg (by omega)]
        congr 1
        show cst h (out.getD n 0) * (pwr r n * r) = _
        rw [← H.mulA, H.mulC]
    rw [e3 k]
    show _ + cst h (out.getD k 0) * (pwr r k * r) = sm k (fun j => r * (cst h (out.getD j 0) * pwr r j)) + r * (cst h (out.getD k 0) * pwr r k)
    congr 1
    rw [← H.mulA, H.mulC]
  rw [e1, H.sm_lin, H.sm_lin]
  congr 1
  have e4 : sm (k + 1) (fun j => cst h (md.getD j 0) * pwr r j) = -pwr r (k + 1) := by
    refine H.negu ?_
    rw [H.addC]
    exact hr
  rw [e4, H.negm, H.mneg]
  have e5 : ∀ x y : El q O h, x + y + -y = x := fun x y => by rw [H.addA, H.addN, H.zadd]
  have e6 : ∀ x : El q O h, - -x = x := fun x => (H.negu (H.nadd x)).symm
  rw [e6, e2]
theorem sm_front {f : Nat → El q O h} : ∀ n, sm (n + 1) f = f 0 + sm n fun j => f (j + 1)
  | 0 => by
    have H := El.fd (h := h)
    show 0 + f 0 = f 0 + 0
    rw [H.addZ, H.zadd]
  | n + 1 => by
    have H := El.fd (h := h)
    show sm (n + 1) f + f (n + 1) = f 0 + (sm n (fun j => f (j + 1)) + f (n + 1))
    rw [sm_front n, H.addA]
theorem Es_ev (r : El q O h) : ∀ l : List Nat, ev (l.map (cst h)) r = Es h r l.length l
  | [] => rfl
  | x :: l => by
    have H := El.fd (h := h)
    unfold Es
    rw [List.length_cons, sm_front]
    show cst h x + r * ev (l.map (cst h)) r = _
    rw [Es_ev r l]
    congr 1
    · show _ = cst h x * 1
      rw [H.umul]
    · unfold Es
      rw [← H.sm_mul]
      refine H.sm_congr fun j _ => ?_
      show r * (cst h (l.getD j 0) * pwr r j) = cst h (l.getD j 0) * (pwr r j * r)
      rw [H.mulC r, H.mulA]
theorem Es_mul {p m : Nat} (C : Chr q O h p) {r : El q O h} {md a : List Nat} (hm : 0 < m) (hr : Es h r m md + pwr r m = 0) : ∀ b : List Nat, Es h r m (Pln.mulL p m md a b) = Es h r m a * ev (b.map (cst h)) r
  | [] => by
    have H := El.fd (h := h)
    show Es h r m (List.replicate m 0) = Es h r m a * 0
    rw [H.mulZ]
    refine H.sm_zero fun j hj => ?_
    have : (List.replicate m 0).getD j 0 = 0 := by simp [List.getD, hj]
    rw [this]
    exact H.zmul _
  | x :: b => by
    have H := El.fd (h := h)
    show Es h r m (stepM p m md a x (Pln.mulL p m md a b)) = Es h r m a * (cst h x + r * ev (b.map (cst h)) r)
    rw [Es_step C hm (qaY (by have := C.p1; omega) md a b) hr, Es_mul C hm hr b, H.dist, H.addC, H.mulC (cst h x)]
    congr 1
    rw [← H.mulA, ← H.mulA, H.mulC r]
/-! ### The images -/
/-- A field description of a smaller field, its values in the greater one at r. -/
structure Emb {p m m1 : Nat} {l l1 md md1 : List Nat} (hF : FT p m md l) (hF1 : FT p m1 md1 l1) (r : El (p ^ m) (opsT p m l) (fld_of hF)) : Prop where
  root : Es (fld_of hF) r m1 md1 + pwr r m1 = 0
end
section
variable {p m m1 : Nat} {l l1 md md1 : List Nat} {hF : FT p m md l} {hF1 : FT p m1 md1 l1} {r : El (p ^ m) (opsT p m l) (fld_of hF)}
theorem chr_of (hF : FT p m md l) : Chr (p ^ m) (opsT p m l) (fld_of hF) p where
  p1 := hF.small.p1
  pq := Nat.le_self_pow (by have := hF.small.m1; omega) p
  add a b ha hb := addD_small (by have := hF.small.p1; omega) hF.small.m1 ha hb
/-- The image of an element. -/
def im (hF : FT p m md l) (m1 : Nat) (r : El (p ^ m) (opsT p m l) (fld_of hF)) (x : Nat) : El (p ^ m) (opsT p m l) (fld_of hF) := Es (fld_of hF) r m1 (digs p m1 x)
theorem im_add (x y : Nat) : im hF m1 r (addD p m1 x y) = im hF m1 r x + im hF m1 r y := by
  have H := El.fd (h := fld_of hF)
  have hp : 0 < p := by have := hF.small.p1; omega
  unfold im Es
  rw [digs_add hp, ← H.sm_add]
  refine H.sm_congr fun j hj => ?_
  have e : (zw p (digs p m1 x) (digs p m1 y)).getD j 0 = ((digs p m1 x).getD j 0 + (digs p m1 y).getD j 0) % p := by
    have h1 : j < (digs p m1 x).length := by rw [qaK]; exact hj
    have h2 : j < (digs p m1 y).length := by rw [qaK]; exact hj
    rw [qbY h1, qbY h2, qbY (by unfold zw; rw [List.length_zipWith]; omega)]
    unfold zw
    rw [List.getElem_zipWith]
  rw [e, (chr_of hF).mod, cst_add, H.rdist]
theorem im_mul (hE : Emb hF hF1 r) {x y : Nat} (hx : x < p ^ m1) (hy : y < p ^ m1) : im hF m1 r ((opsT p m1 l1).mul x y) = im hF m1 r x * im hF m1 r y := by
  have hp : 1 < p := by have := hF.small.p1; omega
  have e : (opsT p m1 l1).mul x y = mulM p m1 md1 x y := hF1.tab.mul_eq (qaU hp hF1.small.m1 md1) hx hy
  unfold im
  rw [e, mulM_dig (by omega), Es_mul (chr_of hF) hF1.small.m1 hE.root, Es_ev, qaK]
theorem im_zero : im hF m1 r 0 = 0 := by
  have H := El.fd (h := fld_of hF)
  have h := im_add (hF := hF) (m1 := m1) (r := r) 0 0
  rw [addD_zero] at h
  exact H.cancel (x := im hF m1 r 0) (by rw [← h, H.zadd])
theorem im_one (hm : 0 < m1) : im hF m1 r 1 = 1 := by
  have H := El.fd (h := fld_of hF)
  have hp : 1 < p := by have := hF.small.p1; omega
  obtain ⟨k, rfl⟩ : ∃ k, m1 = k + 1 := ⟨m1 - 1, by omega⟩
  unfold im Es
  have e : digs p (k + 1) 1 = 1 :: digs p k 0 := by
    show (1 % p :: digs p k (1 / p)) = _
    rw [Nat.mod_eq_of_lt hp, Nat.div_eq_of_lt hp]
  rw [e, H.sm_one (i := 0) (by omega)]
  · show (cst (fld_of hF) 0 + 1) * 1 = 1
    rw [H.umul]
    exact H.addZ 1
  · intro j hj hj0
    obtain ⟨i, rfl⟩ : ∃ i, j = i + 1 := ⟨j - 1, by omega⟩
    have h0 : (1 :: digs p k 0).getD (i + 1) 0 = 0 := by
      have := congrFun (F_digs_zero p k) i
      unfold F at this
      show (digs p k 0).getD i 0 = 0
      omega
    rw [h0]
    exact H.zmul _
theorem im_ne (hE : Emb hF hF1 r) {x : Nat} (hx : x < p ^ m1) (h0 : x ≠ 0) : im hF m1 r x ≠ 0 := fun e => by
  have H := El.fd (h := fld_of hF)
  have h1 := fld_of hF1
  have hi := im_mul hE hx (h1.invL x hx h0)
  rw [h1.inv x hx h0, im_one hF1.small.m1, e, H.zmul] at hi
  exact H.ne hi
/-- A small field's word, sent to the greater field. -/
def phi (hF : FT p m md l) (hF1 : FT p m1 md1 l1) (r : El (p ^ m) (opsT p m l) (fld_of hF)) (x : El (p ^ m1) (opsT p m1 l1) (fld_of hF1)) : El (p ^ m) (opsT p m l) (fld_of hF) := im hF m1 r x.n
theorem phi_add (x y : El (p ^ m1) (opsT p m1 l1) (fld_of hF1)) : phi hF hF1 r (x + y) = phi hF hF1 r x + phi hF hF1 r y := im_add x.n y.n
theorem phi_mul (hE : Emb hF hF1 r) (x y : El (p ^ m1) (opsT p m1 l1) (fld_of hF1)) : phi hF hF1 r (x * y) = phi hF hF1 r x * phi hF hF1 r y := im_mul hE x.lt y.lt
theorem phi_zero : phi hF hF1 r 0 = 0 := im_zero
theorem phi_ne (hE : Emb hF hF1 r) {x : El (p ^ m1) (opsT p m1 l1) (fld_of hF1)} (h0 : x ≠ 0) : phi hF hF1 r x ≠ 0 := im_ne hE x.lt fun e => h0 (El.eq e)
end
end Al
end Go.Proofs.YtlmglaonldlanaaGreat
namespace Go.Proofs.YtlmglaonldlanaaGreat
open Pln
namespace Al

theorem dvd_of_mods {a b n k : Nat} (h : a * k % n = b * k % n) (_hl : a ≤ b) : n ∣ (b - a) * k := by
  have := Nat.sub_mod_eq_zero_of_mod_eq h.symm
  rw [← Nat.sub_mul] at this
  exact Nat.dvd_of_mod_eq_zero this
theorem inj_step {i j n st : Nat} (hg : Nat.gcd st n = 1) (hi : i < n) (hj : j < n) (h : i * st % n = j * st % n) : i = j := by
  have key : ∀ a b, a ≤ b → b < n → a * st % n = b * st % n → a = b := fun a b hab hb h => by
    have h1 := dvd_of_mods h hab
    have h2 : Nat.Coprime n st := by unfold Nat.Coprime; rw [Nat.gcd_comm]; exact hg
    have h3 := Nat.Coprime.dvd_of_dvd_mul_right h2 h1
    rcases Nat.eq_zero_or_pos (b - a) with h4 | h4
    · omega
    · have := Nat.le_of_dvd h4 h3
      omega
  rcases Nat.le_total i j with hij | hij
  · exact key i j hij hj h
  · exact (key j i hij hi h.symm).symm
theorem cross_mod {j t n cr : Nat} (h : j * cr % n = t * cr % n) (hn : 0 < n) : j % (n / Nat.gcd cr n) = t % (n / Nat.gcd cr n) := by
  have hg : 0 < Nat.gcd cr n := Nat.gcd_pos_of_pos_right _ hn
  have hgn := Nat.gcd_dvd_right cr n
  have hgc := Nat.gcd_dvd_left cr n
  have key : ∀ a b, a ≤ b → a * cr % n = b * cr % n → a % (n / Nat.gcd cr n) = b % (n / Nat.gcd cr n) := fun a b hab h => by
    have h1 := dvd_of_mods h hab
    have h2 : Nat.Coprime (n / Nat.gcd cr n) (cr / Nat.gcd cr n) := by
      have := Nat.coprime_div_gcd_div_gcd (m := cr) (n := n) hg
      exact this.symm
    have h3 : n / Nat.gcd cr n ∣ (b - a) * (cr / Nat.gcd cr n) := by
      obtain ⟨k, hk⟩ := h1
      refine ⟨k, Nat.eq_of_mul_eq_mul_right hg ?_⟩
      rw [Nat.mul_assoc, Nat.div_mul_cancel hgc, hk, Nat.mul_right_comm, Nat.div_mul_cancel hgn]
    have h4 := Nat.Coprime.dvd_of_dvd_mul_right h2 h3
    obtain ⟨k, hk⟩ := h4
    have : b = a + n / Nat.gcd cr n * k := by omega
    rw [this, Nat.add_mul_mod_self_left]
  rcases Nat.le_total j t with hij | hij
  · exact key j t hij h
  · exact (key t j hij h.symm).symm
theorem cross_few {n cr t : Nat} (hn : 0 < n) {L : List Nat} (hL : L.Nodup) (hm : ∀ j ∈ L, j < n ∧ j * cr % n = t * cr % n) : L.length ≤ Nat.gcd cr n := by
  have hg : 0 < Nat.gcd cr n := Nat.gcd_pos_of_pos_right _ hn
  have hgn := Nat.gcd_dvd_right cr n
  have hnn : n / Nat.gcd cr n * Nat.gcd cr n = n := Nat.div_mul_cancel hgn
  have hn' : 0 < n / Nat.gcd cr n := Nat.div_pos (Nat.le_of_dvd hn hgn) hg
  have h1 := pigeon (Nat.gcd cr n) (L.map fun j => j / (n / Nat.gcd cr n)) (by
    unfold List.Nodup
    rw [List.pairwise_map]
    refine List.Pairwise.imp_of_mem ?_ hL
    intro a b ha hb hab e
    have h2 := cross_mod (hm a ha).2 hn
    have h3 := cross_mod (hm b hb).2 hn
    refine hab ?_
    rw [← Nat.div_add_mod a (n / Nat.gcd cr n), ← Nat.div_add_mod b (n / Nat.gcd cr n), e, h2, h3]) (fun x hx => by
    obtain ⟨j, hj, rfl⟩ := List.mem_map.1 hx
    rw [Nat.div_lt_iff_lt_mul hn', Nat.mul_comm, hnn]
    exact (hm j hj).1)
  rwa [List.length_map] at h1
section
variable {K : Type} [Add K] [Mul K] [Neg K] [Zero K] [One K]
theorem Fd.inj_mod (H : Fd K) {x : K} {n a b : Nat} (hn : pwr x n = 1) (hp : 0 < n) (hi : ∀ i j, i < n → j < n → pwr x i = pwr x j → i = j) (h : pwr x a = pwr x b) : a % n = b % n := by
  refine hi _ _ (Nat.mod_lt _ hp) (Nat.mod_lt _ hp) ?_
  rw [H.pwr_mod hn, H.pwr_mod hn, h]
/-- A word with zeros in a run is zero or has many entries. -/
theorem Fd.zeros_wt (H : Fd K) {n : Nat} {c0 : Nat → K} {x : K} (hn : pwr x n = 1) (hi : ∀ i j, i < n → j < n → pwr x i = pwr x j → i = j) {s0 st cr count more : Nat} (hc : 0 < count) (hg : Nat.gcd st n = 1) (hg2 : more = 0 ∨ Nat.gcd cr n ≤ count)
    (hz : ∀ i s, i < count → s ≤ more → sm n (fun t => c0 t * pwr (pwr x ((s0 + i * st + s * cr) % n)) t) = 0) {t : Nat} (ht : t < n) (h0 : c0 t ≠ 0) (S : List Nat) (hS : S.Nodup) (hin : ∀ j ∈ S, j < n) (hs : ∀ j, j < n → c0 j ≠ 0 → j ∈ S) : count + more + 1 ≤ S.length := by
  have hp : 0 < n := by omega
  have hx0 : x ≠ 0 := fun e => by
    obtain ⟨k, rfl⟩ : ∃ k, n = k + 1 := ⟨n - 1, by omega⟩
    rw [e] at hn
    refine H.ne ?_
    rw [← hn]
    exact H.mulZ _
  have hpn := fun k => H.pwr_ne hx0 k
  refine H.ht (c := fun t => c0 t * pwr x (t * s0)) (x := fun t => pwr x (t * st)) (y := fun t => pwr x (t * cr)) hc ?_ ?_ ?_ ht (H.mulne h0 (hpn _)) S hS hin ?_
  · intro i s hi2 hs2
    rw [← hz i s hi2 hs2]
    refine H.sm_congr fun j _ => ?_
    show c0 j * pwr x (j * s0) * (pwr (pwr x (j * st)) i * pwr (pwr x (j * cr)) s) = _
    rw [H.pwr_mod hn, ← H.pwr_mul, ← H.pwr_mul, ← H.pwr_mul, ← H.pwr_add, H.mulA, ← H.pwr_add]
    congr 2
    rw [Nat.add_mul, Nat.add_mul, Nat.mul_comm s0 j, Nat.mul_assoc j st i, Nat.mul_assoc j cr s, Nat.mul_comm st i, Nat.mul_comm cr s, Nat.mul_comm (i * st) j, Nat.mul_comm (s * cr) j, Nat.add_assoc]
  · intro i j hi2 hj2 he
    exact inj_step hg hi2 hj2 (H.inj_mod hn hp hi he)
  · rcases hg2 with h | h
    · exact .inl h
    · right
      intro t L ht2 hL hm
      refine Nat.le_trans (cross_few (t := t) hp hL fun j hj => ⟨(hm j hj).1, ?_⟩) h
      exact H.inj_mod hn hp hi (hm j hj).2
  · intro j hj hcj
    refine hs j hj fun e => hcj ?_
    show c0 j * pwr x (j * s0) = 0
    rw [e, H.zmul]
end
section
variable {p m m1 : Nat} {l l1 md md1 : List Nat} {hF : FT p m md l} {hF1 : FT p m1 md1 l1} {r : El (p ^ m) (opsT p m l) (fld_of hF)}
/-- The word's polynomial has the value 0 at the e-th power of x. -/
def ZeroAt (hF : FT p m md l) (hF1 : FT p m1 md1 l1) (r x : El (p ^ m) (opsT p m l) (fld_of hF)) (n e : Nat) (f : Nat → El (p ^ m1) (opsT p m1 l1) (fld_of hF1)) : Prop := sm n (fun t => phi hF hF1 r (f t) * pwr (pwr x e) t) = 0
theorem zeroAt_lin (hE : Emb hF hF1 r) (x : El (p ^ m) (opsT p m l) (fld_of hF)) (n e : Nat) : LinF (p ^ m1) (opsT p m1 l1) (fld_of hF1) (ZeroAt hF hF1 r x n e) := by
  have H := El.fd (h := fld_of hF)
  refine ⟨H.sm_zero fun j _ => by rw [phi_zero, H.zmul], fun f g a hf hg => ?_⟩
  unfold ZeroAt at hf hg ⊢
  have e1 : sm n (fun t => phi hF hF1 r (f t + a * g t) * pwr (pwr x e) t) = sm n (fun t => phi hF hF1 r (f t) * pwr (pwr x e) t + phi hF hF1 r a * (phi hF hF1 r (g t) * pwr (pwr x e) t)) := H.sm_congr fun t _ => by
    rw [phi_add, phi_mul hE, H.rdist, H.mulA]
  rw [e1, H.sm_lin, hf, hg, H.mulZ, H.addZ]
/-- The bound for words of numbers. -/
theorem run_wt (hE : Emb hF hF1 r) {x : El (p ^ m) (opsT p m l) (fld_of hF)} {n : Nat} (hn : pwr x n = 1) (hi : ∀ i j, i < n → j < n → pwr x i = pwr x j → i = j) {s0 st cr count more : Nat} (hc : 0 < count) (hg : Nat.gcd st n = 1) (hg2 : more = 0 ∨ Nat.gcd cr n ≤ count)
    {w : List Nat} (hw : Dv.Ok (p ^ m1) n w) (hz : ∀ i s, i < count → s ≤ more → ZeroAt hF hF1 r x n ((s0 + i * st + s * cr) % n) (wd (fld_of hF1) w)) (h0 : Dv.wt w ≠ 0) : count + more + 1 ≤ Dv.wt w := by
  have H := El.fd (h := fld_of hF)
  have hq1 := (fld_of hF1).q1
  rw [wt_supp] at h0 ⊢
  have hwq : ∀ j, w.getD j 0 < p ^ m1 := fun j => qdH hw.2 (by omega) j
  obtain ⟨t, ht⟩ : ∃ t, t ∈ supp w := by
    cases hs : supp w with
    | nil => rw [hs] at h0; exact absurd rfl h0
    | cons t _ => exact ⟨t, by simp⟩
  obtain ⟨h1, h2⟩ := mem_supp.1 ht
  rw [hw.1] at h1
  refine H.zeros_wt (c0 := fun t => phi hF hF1 r (wd (fld_of hF1) w t)) hn hi hc hg hg2 hz h1 (phi_ne hE (El.of_ne (hwq t) h2)) (supp w) (supp_nd w) (fun j hj => by have := (mem_supp.1 hj).1; rw [hw.1] at this; exact this) ?_
  intro j hj hne
  refine mem_supp.2 ⟨by rw [hw.1]; exact hj, fun e => hne ?_⟩
  show phi hF hF1 r (wd (fld_of hF1) w j) = 0
  unfold wd
  rw [e, El.of_zero, phi_zero]
end
end Al
end Go.Proofs.YtlmglaonldlanaaGreat
namespace Go.Proofs.YtlmglaonldlanaaGreat
open Go.RowKit Pln
open Al
section
variable {q:Nat} {O:Ops} {h:Fld q O}
theorem ev_sm (x:El q O h):∀ l:List (El q O h),ev l x=sm l.length fun j=>l.getD j 0*pwr x j
 | []=>rfl
 | a :: l => by
   have H:=El.fd (h:=h)
   show a+x*ev l x=_
   rw [ev_sm x l,List.length_cons,sm_front]
   show a+x*_=a*1+sm l.length fun j=>l.getD j 0*(pwr x j*x)
   rw [H.mulC a 1,H.mulU,<- H.sm_mul]
   congr 1
   exact H.sm_congr fun j _=>by rw [<- H.mulA,<- H.mulA,H.mulC x];rw [H.mulA,H.mulA,H.mulC x]
theorem of_pwN {r:Nat} (hr:r<q):∀ k,El.of h (pwN O r k)=pwr (El.of h r) k
 | 0=>El.of_one
 | k + 1 => by
   show El.of h (O.mul (pwN O r k) r)=pwr (El.of h r) k*El.of h r
   rw [El.of_mul (pwN_lt h.mulL h.q1 hr k) hr,of_pwN hr k]
theorem evN_lt (h:Fld q O) {v:List Nat} (hv:∀ a∈v,a<q) {x:Nat} (hx:x<q):evN O v x<q:=by
 induction v with
 | nil=>have:=h.q1;show 0<q;omega
 | cons a r ih=>exact h.addL _ _ (h.mulL _ _ (ih fun b hb=>hv b (List.mem_cons_of_mem _ hb)) hx) (hv a List.mem_cons_self)
theorem of_evN {x:Nat} (hx:x<q):∀ v:List Nat,(∀ a∈v,a<q)->El.of h (evN O v x)=ev (v.map (El.of h)) (El.of h x)
 | [],_=>El.of_zero
 | a :: r,hv => by
   have H:=El.fd (h:=h)
   have hr:∀ b∈r,b<q:=fun b hb=>hv b (List.mem_cons_of_mem _ hb)
   have ha:=hv a List.mem_cons_self
   have hl:=evN_lt h hr hx
   show El.of h (O.add (O.mul (evN O r x) x) a)=El.of h a+El.of h x*ev (r.map (El.of h)) (El.of h x)
   rw [El.of_add (h.mulL _ _ hl hx) ha,El.of_mul hl hx,of_evN hx r hr,H.addC,H.mulC (ev _ _)]
theorem of_dotO:∀ (s:Nat) (u v:List Nat),s<q->(∀ x∈u,x<q)->(∀ x∈v,x<q)->u.length=v.length->El.of h (Dv.dotO O s u v)=El.of h s+sm u.length (fun j=>El.of h (u.getD j 0)*El.of h (v.getD j 0))
 | s,[],v,_,_,_,hl => by
   have H:=El.fd (h:=h)
   have:v=[]:=List.length_eq_zero_iff.1 hl.symm
   subst this
   show El.of h s=El.of h s+0
   rw [H.zadd]
 | s,x :: u,[],_,_,_,hl=>by simp at hl
 | s,x :: u,y :: v,hs,hu,hv,hl => by
   have H:=El.fd (h:=h)
   have hx:=hu x List.mem_cons_self
   have hy:=hv y List.mem_cons_self
   show El.of h (Dv.dotO O (O.add s (O.mul x y)) u v)=_
   rw [of_dotO _ u v (h.addL _ _ hs (h.mulL _ _ hx hy)) (fun z hz=>hu z (List.mem_cons_of_mem _ hz)) (fun z hz=>hv z (List.mem_cons_of_mem _ hz)) (by simpa using hl),El.of_add hs (h.mulL _ _ hx hy),El.of_mul hx hy,List.length_cons,sm_front,H.addA]
   rfl
end
section
variable {p m m1:Nat} {md l md1 l1:List Nat}
theorem of_imN (hF:FT p m md l) {r:Nat} (hr:r<p ^ m) (m1 x:Nat):El.of (fld_of hF) (imN (opsT p m l) p m1 r x)=im hF m1 (El.of (fld_of hF) r) x:=by
 have H:=El.fd (h:=fld_of hF)
 have hq1:=(fld_of hF).q1
 have hp:0<p:=by have:=hF.small.p1;omega
 have hpq:p<=p ^ m:=Nat.le_self_pow (by have:=hF.small.m1;omega) p
 unfold imN
 rw [of_dotO 0 _ _ (by omega) (fun y hy=>by have:=qeQ hp m1 x y hy;omega) (fun y hy=>by
  obtain ⟨k,_,rfl⟩:=List.mem_map.1 hy
  exact pwN_lt (fld_of hF).mulL hq1 hr k) (by rw [qaK,qdT]),El.of_zero,H.addZ,qaK]
 unfold im Es
 refine H.sm_congr fun j hj=>?_
 rw [pwL_at _ _ _ _ hj,of_pwN hr,(chr_of hF).of]
 rw [qbY (by rw [qaK];exact hj)]
 exact qeQ hp m1 x _ (List.getElem_mem _)
theorem log_of (hF:FT p m md l) {x:Nat} (hx:x<p ^ m) (h0:x≠0):∃ G:El (p ^ m) (opsT p m l) (fld_of hF),pwr G (p ^ m-1)=1/\(∀ i j,i<p ^ m-1->j<p ^ m-1->pwr G i=pwr G j->i=j)/\El.of (fld_of hF) x=pwr G ((logL l (p ^ m)).getD x 0)/\∀ i,i<p ^ m-1->El.of (fld_of hF) (l.getD i 0)=pwr G i:=by
 have H:=El.fd (h:=fld_of hF)
 have hq1:=(fld_of hF).q1
 have HM:=qaU (p:=p) (m:=m) (by have:=hF.small.p1;omega) hF.small.m1 md
 obtain ⟨g,g1,g2,g3,g4⟩:=hF.tab.get
 have hpw:∀ k,El.of (fld_of hF) (pw (mulM p m md) g k)=pwr (El.of (fld_of hF) g) k:=by
  intro k
  induction k with
  | zero=>exact El.of_one
  | succ k ih =>
    have hk:=pw_lt HM g k
    show El.of (fld_of hF) (mulM p m md (pw (mulM p m md) g k) g)=_
    rw [<- hF.tab.mul_eq HM hk g2]
    show El.of (fld_of hF) ((opsT p m l).mul (pw (mulM p m md) g k) g)=_
    rw [El.of_mul hk g2,ih]
    rfl
 have hl:∀ i,i<p ^ m-1->El.of (fld_of hF) (l.getD i 0)=pwr (El.of (fld_of hF) g) i:=fun i hi=>by rw [g4 i hi,hpw]
 obtain ⟨a1,a2⟩:=hF.tab.log HM h0 hx
 refine ⟨El.of (fld_of hF) g,by rw [<- hpw,g3,El.of_one],fun i j hi hj e=>?_,?_,hl⟩
 . rw [<- hl i hi,<- hl j hj] at e
   have hll:=hF.tab.len
   have e1:l.getD i 0=l[i]'(by omega):=by simp [List.getD,show i<l.length by omega]
   have e2:l.getD j 0=l[j]'(by omega):=by simp [List.getD,show j<l.length by omega]
   have e3:=El.of_inj (by rw [e1];exact hF.tab.lt _ (List.getElem_mem _)) (by rw [e2];exact hF.tab.lt _ (List.getElem_mem _)) e
   rw [e1,e2] at e3
   exact (List.getElem_inj hF.tab.nd).1 e3
 . rw [<- hl _ a1,a2]
theorem of_powT (hF:FT p m md l) {x:Nat} (hx:x<p ^ m) (h0:x≠0) (n:Nat):El.of (fld_of hF) (powT l (logL l (p ^ m)) (p ^ m) x n)=pwr (El.of (fld_of hF) x) n:=by
 have H:=El.fd (h:=fld_of hF)
 have hq1:=(fld_of hF).q1
 obtain ⟨G,h1,_,h3,h4⟩:=log_of hF hx h0
 unfold powT
 by_cases hn:n=0
 . subst hn
   rw [if_pos rfl]
   exact El.of_one
 . rw [if_neg hn,if_neg h0,h3,h4 _ (Nat.mod_lt _ (by omega)),<- H.pwr_mul,H.pwr_mod h1,H.pwr_mul,H.pwr_mul,<- h3]
   have hx1:pwr (El.of (fld_of hF) x) (p ^ m-1)=1:=by
    rw [h3,<- H.pwr_mul,Nat.mul_comm,H.pwr_mul,h1,H.pwr_one]
   exact H.pwr_mod hx1 n
theorem ord_of (hF:FT p m md l) {x n:Nat} (hx:x<p ^ m) (h0:x≠0) (hn:n=ordT (logL l (p ^ m)) (p ^ m) x):pwr (El.of (fld_of hF) x) n=1/\∀ i j,i<n->j<n->pwr (El.of (fld_of hF) x) i=pwr (El.of (fld_of hF) x) j->i=j:=by
 have H:=El.fd (h:=fld_of hF)
 have hq1:=(fld_of hF).q1
 obtain ⟨G,h1,h2,h3,_⟩:=log_of hF hx h0
 unfold ordT at hn
 generalize (logL l (p ^ m)).getD x 0=lx at *
 have hQ:0<p ^ m-1:=by omega
 generalize p ^ m-1=Q at *
 have hg:0<Nat.gcd Q lx:=Nat.gcd_pos_of_pos_left _ hQ
 obtain ⟨a,ha⟩:=Nat.gcd_dvd_left Q lx
 obtain ⟨b,hb⟩:=Nat.gcd_dvd_right Q lx
 have hna:n=a:=by
  rw [hn]
  exact Nat.div_eq_of_eq_mul_right hg ha
 refine ⟨?_,fun i j hi hj e=>?_⟩
 . rw [h3,<- H.pwr_mul]
   have e:lx*n=Q*b:=by
    rw [hna]
    calc lx*a=(Nat.gcd Q lx*b)*a:=by rw [<- hb]
     _=(Nat.gcd Q lx*a)*b:=by rw [Nat.mul_right_comm]
     _=Q*b:=by rw [<- ha]
   rw [e,H.pwr_mul,h1,H.pwr_one]
 . rw [h3,<- H.pwr_mul,<- H.pwr_mul] at e
   have e1:=H.inj_mod h1 hQ h2 e
   rw [Nat.mul_comm lx,Nat.mul_comm lx] at e1
   have e2:=cross_mod e1 hQ
   rw [Nat.gcd_comm,<- hn,Nat.mod_eq_of_lt hi,Nat.mod_eq_of_lt hj] at e2
   exact e2
end
end Go.Proofs.YtlmglaonldlanaaGreat
