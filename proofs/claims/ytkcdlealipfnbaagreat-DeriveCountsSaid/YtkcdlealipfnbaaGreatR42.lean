/- Parts of the proof. -/
import Derived.Test.YtkcdlealipfnbaaGreatR37
import Derived.Test.YtkcdlealipfnbaaGreatR41
set_option maxRecDepth 100000
set_option maxHeartbeats 8000000
namespace Go.Proofs.YtkcdlealipfnbaaGreat
open Go.RowKit Pln
open Al
theorem combO_eq{q n:Nat}{O l:Ops}(E:OpsEq q O l){rows:LL}(k:∀ r∈rows,Dv.Ok q n r):∀ (msg out:LN),(∀ x∈msg,x<q)->Dv.Ok q n out->Dv.combO l out msg rows=Dv.combO O out msg rows:=by
 induction rows with
 |nil=>intro msg out _ _;cases msg<;>rfl
 |cons r rs ih=>
  intro msg out c d;cases msg with
  |nil=>rfl
  |cons x xs=>
   unfold Dv.combO;obtain⟨i,j⟩:=k r List.mem_cons_self;have h:=c x List.mem_cons_self;obtain⟨f,g⟩:=qdB E h d.2 j;by_cases b:x=0
   . rw[if_pos b,if_pos b];exact ih (fun y hy=>k y (List.mem_cons_of_mem _ hy)) xs out (fun y hy=>c y (List.mem_cons_of_mem _ hy)) d
   . rw[if_neg b,if_neg b,<- f];exact ih (fun y hy=>k y (List.mem_cons_of_mem _ hy)) xs _ (fun y hy=>c y (List.mem_cons_of_mem _ hy)) ⟨by unfold Pln.addRow;rw[List.length_zipWith,d.1,i,Nat.min_self],g⟩
theorem cw_lin{s:StD}(u:formZ s=0){hfl:Fld (s.p.toNat^s.m.toNat) (opsS s)}{Q:(Nat->El (s.p.toNat^s.m.toNat) (opsS s) hfl)->Prop}(L:LinF (s.p.toNat^s.m.toNat) (opsS s) hfl Q)(v:∀r∈natR s.gen,Q (wd hfl r)){q:LN}(t:∀x∈q,x<s.p.toNat^s.m.toNat):
 Q (wd hfl (cwO s.p.toNat s.m.toNat (mdOf s.m s.mod) s.n.toNat (natR s.gen) q))/\Dv.Ok (s.p.toNat^s.m.toNat) s.n.toNat (cwO s.p.toNat s.m.toNat (mdOf s.m s.mod) s.n.toNat (natR s.gen) q):=by
 have f:=form_is u;have c:=field_ft f.field;have l:=(fld_of c).q1;have g:(mdOf s.m s.mod).length=s.m.toNat:=by
  have o:=shape_is (by have h:=f.field;unfold fieldOK at h;rw[Bool.and_eq_true] at h;exact h.1:shapeM s.p s.m s.mod=true);by_cases b:s.m=1
  . rw[b];simp[mdOf]
  . unfold mdOf;rw[if_neg b,List.length_map,o.len b]
 have k:Dv.Ok (s.p.toNat^s.m.toNat) s.n.toNat (List.replicate s.n.toNat 0):=⟨U2,fun x hx=>by rw[(List.mem_replicate.1 hx).2];omega⟩;have d:∀r∈natR s.gen,Dv.Ok (s.p.toNat^s.m.toNat) s.n.toNat r:=fun r h=>f.grid.2 r h;have i:OpsEq (s.p.toNat^s.m.toNat) (opsS s) (refOps s.p.toNat s.m.toNat (mdOf s.m s.mod)):=ops_eq c g;have e:=combO_eq i d q _ t k;unfold cwO;rw[e];refine L.comb (fun r h=>⟨d r h,v r h⟩) q _ t k ?_;rw[show wd hfl (List.replicate s.n.toNat 0)=fun _=>0 from funext fun j=>qeH _ _];exact L.zero
theorem form_canon{d:StD}(f:formZ d=0):canonM (opsS d) (natR d.gen) d.n.toNat=natR d.gen:=by
 obtain⟨_,_,b⟩:=codeZ_n (qbG f);unfold spZ at b;rw[if_neg (by rw[form_err f];simp)] at b;split at b
 . rename_i h;have c:natR (nzs (canZ d.p d.m d.mod d.n d.gen))=canZ d.p d.m d.mod d.n d.gen:=natR_nzs _;rw[h] at c;exact c.symm
 . cases b
end Go.Proofs.YtkcdlealipfnbaaGreat
namespace Go.Proofs.YtkcdlealipfnbaaGreat
open Pln
namespace Al
section
variable {q q1:Nat} {O O1:Ops} {h:Fld q O} {h1:Fld q1 O1}
structure Cat (emb:El q1 O1 h1->El q O h) (ni:Nat) (I:LL) (φ:El q O h->Nat->El q1 O1 h1):Prop where
 lin:∀x y a j,j<ni->φ (x+emb a*y) j=φ x j+a*φ y j
 zero:∀j,j<ni->φ 0 j=0
 inI:∀x,InC h1 ni I (φ x)
 inj:∀x,(∀j,j<ni->φ x j=0)->x=0
end
end Al
end Go.Proofs.YtkcdlealipfnbaaGreat
namespace Go.Proofs.YtkcdlealipfnbaaGreat
open Go.RowKit Pln
section
open Al
variable {p m:Nat} {md l:LN}
end
end Go.Proofs.YtkcdlealipfnbaaGreat
namespace Go.Proofs.YtkcdlealipfnbaaGreat
open Go.RowKit Pln
open Al
section
variable {q:Nat} {O:Ops}
theorem qcZ{rows:LL}{i j:Nat}(b:i<rows.length)(c:j<rows.length)(k:Nat):(swapRows rows i j).getD k []=if k=j then rows.getD i [] else if k=i then rows.getD j [] else rows.getD k []:=by unfold swapRows;rw[qeW _ _ _ _ _ so,qeW _ _ _ _ _ U0]
def UnitC(n c:Nat)(M:LL):Prop:=∀i j,i<n->j<c->at2 M i j=if i=j then 1 else 0
end
end Go.Proofs.YtkcdlealipfnbaaGreat
namespace Go.Proofs.YtkcdlealipfnbaaGreat
open Pln
namespace Al
theorem findRow_all(rows:LL)(c:Nat):∀ g k,findRow rows c g k=k+g->∀ i,k<=i->i<k+g->at2 rows i c=0
 |0,k,_,i,h1,h2=>by omega
 | g + 1,k,h,i,h1,h2 => by
   unfold findRow at h
   by_cases h0:at2 rows k c=0
   . rw[if_pos h0] at h
     by_cases e:i=k
     . subst e;exact h0
     . exact findRow_all rows c g (k+1) U0 i U0 U0
   . rw[if_neg h0] at h
     omega
section
variable {q:Nat} {O:Ops} {h:Fld q O}
theorem norm_at2(_:Fld q O){n cols:Nat}{l:LL}(m:Grid q n cols l){t c:Nat}(p:t<n)(_:c<cols):∀ i,i<n->∀ j,j<cols->at2 (normRow O l t c) i j=if i=t then (if at2 l t c=1 then at2 l i j else O.mul (O.inv (at2 l t c)) (at2 l i j)) else at2 l i j:=by
 intro i g j d;have k:=m.1;unfold normRow;by_cases e:at2 l t c=1
 . rw[if_pos e];by_cases b:i=t
   . rw[if_pos b,if_pos e]
   . rw[if_neg b]
 . rw[if_neg e,at2_set U0];by_cases b:i=t
   . rw[if_pos b,if_pos b,if_neg e];obtain⟨f,_⟩:=m.row (i:=t) U0;rw[getD_at (by unfold scaleRow;rw[List.length_map,f];exact d)];unfold scaleRow;rw[List.getElem_map,<- getD_at];rw[b];rfl
   . rw[if_neg b,if_neg b]
theorem zero_below(h:Fld q O){n cols:Nat}{rows:LL}(K:Grid q n cols rows):∀ c,c<=cols->∀ i,(elGo O rows c).piv.length<=i->i<n->∀ j,j<c->at2 (elGo O rows c).rows i j=0
 |0,_=>fun i _ _ j hj=>by omega
 | c + 1,hc => by
   have ih:=zero_below h K c U0
   obtain⟨_,g⟩:=qdT h.self K c U0
   have v:=(elGo_piv (O:=O) rows c).2
   rw[K.1] at v
   unfold elGo
   generalize elGo O rows c=s at *
   unfold elStep
   have u:=g.1
   by_cases x:s.piv.length<s.rows.length
   . simp only [if_pos x]
     have J:=qdF s.rows c (s.rows.length-s.piv.length) s.piv.length
     by_cases y:findRow s.rows c (s.rows.length-s.piv.length) s.piv.length=s.rows.length
     . simp only [if_pos y]
       intro i d b j hj
       by_cases e:j=c
       . subst e
         exact findRow_all s.rows j (s.rows.length-s.piv.length) s.piv.length U0 i d U0
       . exact ih i d b j U0
     . simp only [if_neg y]
       have m:=qcF s.rows c (s.rows.length-s.piv.length) s.piv.length U0
       generalize findRow s.rows c (s.rows.length-s.piv.length) s.piv.length=k at *
       have r:=qdC g (i:=s.piv.length) (j:=k) U0 U0
       have l:at2 (swapRows s.rows s.piv.length k) s.piv.length c≠0:=by
        unfold at2 at m ⊢
        rw[qfT U0 U0]
        exact m
       have I:∀ i,s.piv.length<=i->i<n->∀ j,j<c->at2 (swapRows s.rows s.piv.length k) i j=0:=fun i d b j hj=>by
        unfold at2
        rw[qcZ U0 U0]
        split
        . exact ih s.piv.length zn U0 j hj
        . split
          . exact ih k U0 U0 j hj
          . exact ih i d b j hj
       generalize swapRows s.rows s.piv.length k=p at *
       obtain⟨_,C⟩:=qfW h.self r (i:=s.piv.length) U0 U0 l
       have f:=norm_at2 h r (t:=s.piv.length) (c:=c) U0 U0
       have o:=r.at_ (i:=s.piv.length) (c:=c) U0 U0
       have E:at2 (normRow O p s.piv.length c) s.piv.length c=1:=by
        rw[f _ U0 c U0,if_pos rfl]
        by_cases e:at2 p s.piv.length c=1
        . rw[if_pos e]
          exact e
        . rw[if_neg e,h.mulC _ _ (h.invL _ o l) o,h.inv _ o l]
       have A:∀ i,s.piv.length<=i->i<n->∀ j,j<c->at2 (normRow O p s.piv.length c) i j=0:=fun i d b j hj=>by
        have z:=I i d b j hj
        rw[f i b j U0]
        split
        . split
          . exact z
          . rw[z,h.mulC _ _ (h.invL _ o l) (by have:=h.q1;omega),h.mulZ _ (h.invL _ o l)]
        . exact z
       generalize normRow O p s.piv.length c=H at *
       obtain⟨c1,c2,B,_⟩:=clear_at h C (t:=s.piv.length) (by omega:c<cols) U0 E n zn
       rw[u]
       intro i d b j hj
       have D:s.piv.length+1<=i:=by simpa using d
       show at2 (clearGo O c s.piv.length H n) i j=0
       by_cases e:j=c
       . subst e
         exact B i b U0
       . rw[c1 i b j U0 (A s.piv.length zn U0 j U0)]
         exact A i U0 b j U0
   . simp only[if_neg x]
     intro i d b
     omega
end
end Al
end Go.Proofs.YtkcdlealipfnbaaGreat
namespace Go.Proofs.YtkcdlealipfnbaaGreat
open Go.RowKit Pln
namespace Al
section
variable {q:Nat} {O:Ops}
theorem snoc_lt{l:LN}{c i:Nat}(b:i<l.length):(l++[c]).getD i 0=l.getD i 0:=by simp[List.getD,List.getElem?_append_left b]
theorem snoc_at{l:LN}{c:Nat}:(l++[c]).getD l.length 0=c:=by simp[List.getD]
theorem ech(h:Fld q O){n cols:Nat}{rows:LL}(R:Grid q n cols rows):∀ c,c<=cols->(∀ i k,i<k->k<(elGo O rows c).piv.length->(elGo O rows c).piv.getD i 0<(elGo O rows c).piv.getD k 0)/\∀ i,i<(elGo O rows c).piv.length->∀ j,j<(elGo O rows c).piv.getD i 0->at2 (elGo O rows c).rows i j=0
 |0,_=>⟨fun i k _ hk=>absurd hk (Nat.not_lt_zero k),fun i hi=>absurd hi (Nat.not_lt_zero i)⟩
 | c + 1,hc => by
   have ih:=ech h R c U0
   obtain⟨_,g⟩:=qdT h.self R c U0
   have x:=(elGo_piv (O:=O) rows c).2
   rw[R.1] at x
   have I:=zero_below h R c U0
   have l:∀i,i<(elGo O rows c).piv.length->(elGo O rows c).piv.getD i 0<c:=fun i hi=>elGo_piv_lt O rows c _ (by rw[getD_at hi];exact List.getElem_mem _)
   unfold elGo
   generalize elGo O rows c=s at *
   unfold elStep
   have v:=g.1
   by_cases A:s.piv.length<s.rows.length
   . simp only [if_pos A]
     have Q:=qdF s.rows c (s.rows.length-s.piv.length) s.piv.length
     by_cases B:findRow s.rows c (s.rows.length-s.piv.length) s.piv.length=s.rows.length
     . simp only[if_pos B]
       exact ih
     . simp only [if_neg B]
       have o:=qcF s.rows c (s.rows.length-s.piv.length) s.piv.length U0
       generalize findRow s.rows c (s.rows.length-s.piv.length) s.piv.length=k at *
       have u:=qdC g (i:=s.piv.length) (j:=k) U0 U0
       have m:at2 (swapRows s.rows s.piv.length k) s.piv.length c≠0:=by
        unfold at2 at o ⊢
        rw[qfT U0 U0]
        exact o
       have N:∀j,j<c->at2 (swapRows s.rows s.piv.length k) s.piv.length j=0:=fun j hj=>by
        unfold at2
        rw[qfT U0 U0]
        exact I k U0 U0 j hj
       have L:∀i,i<s.piv.length->∀j,at2 (swapRows s.rows s.piv.length k) i j=at2 s.rows i j:=fun i hi j=>by
        unfold at2
        rw[qcZ U0 U0,if_neg U0,if_neg U0]
       generalize swapRows s.rows s.piv.length k=r at *
       obtain⟨_,C⟩:=qfW h.self u (i:=s.piv.length) U0 U0 m
       have f:=norm_at2 h u (t:=s.piv.length) (c:=c) U0 U0
       have p:=u.at_ (i:=s.piv.length) (c:=c) U0 U0
       have J:at2 (normRow O r s.piv.length c) s.piv.length c=1:=by
        rw[f _ U0 c U0,if_pos rfl]
        by_cases e:at2 r s.piv.length c=1
        . rw[if_pos e]
          exact e
        . rw[if_neg e,h.mulC _ _ (h.invL _ p m) p,h.inv _ p m]
       have y:∀j,j<c->at2 (normRow O r s.piv.length c) s.piv.length j=0:=fun j hj=>by
        have z:=N j hj
        rw[f _ U0 j U0,if_pos rfl]
        split
        . exact z
        . rw[z,h.mulC _ _ (h.invL _ p m) (by have:=h.q1;omega),h.mulZ _ (h.invL _ p m)]
       have M:∀i,i<s.piv.length->∀j,j<c->at2 (normRow O r s.piv.length c) i j=at2 s.rows i j:=fun i hi j hj=>by
        rw[f _ U0 j U0,if_neg U0,L i hi j]
       generalize normRow O r s.piv.length c=K at *
       obtain⟨c1,c2,P,_⟩:=clear_at h C (t:=s.piv.length) (by omega:c<cols) U0 J n zn
       rw[v]
       refine⟨fun i k hik hk=>?_,fun i hi j hj=>?_⟩
       . have H : k < s.piv.length + 1 := by simpa using hk
         show(s.piv++[c]).getD i 0<(s.piv++[c]).getD k 0
         by_cases b:k<s.piv.length
         . rw[snoc_lt b,snoc_lt U0]
           exact ih.1 i k hik b
         . obtain rfl : k = s.piv.length:=by omega
           rw[snoc_at,snoc_lt hik]
           exact l i hik
       . have D : i < s.piv.length + 1 := by simpa using hi
         have d:=hj
         show at2 (clearGo O c s.piv.length K n) i j=0
         by_cases b:i<s.piv.length
         . rw[snoc_lt b] at d
           have E:=l i b
           rw[c1 i U0 j U0 (y j U0),M i b j U0]
           exact ih.2 i b j d
         . obtain rfl : i = s.piv.length:=by omega
           rw[snoc_at] at d
           rw[c1 _ U0 j U0 (y j d)]
           exact y j d
   . simp only[if_neg A]
     exact ih
theorem clear_same{c t:Nat}{rows:LL}{n:Nat}(b:∀ i,i<n->i≠t->at2 rows i c=0):∀ i,i<=n->clearGo O c t rows i=rows
 |0,_=>rfl
 |i + 1,hi=>by
   unfold clearGo
   rw[clear_same b i U0,if_neg]
   rintro⟨h1,h2⟩
   exact h2 (b i U0 h1)
theorem find_none{rows:LL}{c:Nat}:∀ g k,(∀ i,k<=i->i<k+g->at2 rows i c=0)->findRow rows c g k=k+g
 |0,_,_=>rfl
 |g + 1,k,h=>by
   unfold findRow
   rw[if_pos (h k zn U0),find_none g (k+1) fun i h1 h2=>h i U0 U0]
   omega
theorem canon_idem(h:Fld q O){n cols:Nat}{rows:LL}(S:Grid q n cols rows):canonM O (canonM O rows cols) cols=canonM O rows cols:=by
 obtain⟨C,p⟩:∃C,C=canonM O rows cols:=⟨_,rfl⟩;obtain⟨P,f⟩:∃P,P=(elGo O rows cols).piv:=⟨_,rfl⟩;have M:C.length=P.length:=by rw[p,f,canonM_len]
 obtain⟨asc,I⟩:=ech h S cols zn;have J:∀i k,i<P.length->k<P.length->at2 C i (P.getD k 0)=if i=k then 1 else 0:=fun i k hi hk=>by rw[p,f];rw[f] at hi hk;exact unit_canon h S hi hk
 have x:∀i,i<P.length->P.getD i 0<cols:=fun i hi=>by rw[f] at hi ⊢;exact elGo_piv_lt O rows cols _ (by rw[getD_at hi];exact List.getElem_mem _)
 have D:∀i,i<P.length->∀j,j<P.getD i 0->at2 C i j=0:=fun i hi j hj=>by
  rw[f] at hi hj;have:=I i hi j hj;unfold at2 at this ⊢;rw[p];unfold canonM;have e:((elGo O rows cols).rows.take (elGo O rows cols).piv.length).getD i []=(elGo O rows cols).rows.getD i []:=by simp[List.getD,hi]
  rw[e];exact this
 rw [<- f] at asc;have E:∀ c,c<=cols->∃ t,t<=P.length/\elGo O C c=⟨C,P.take t⟩/\(∀ i,i<t->P.getD i 0<c)/\∀ i,t<=i->i<P.length->c<=P.getD i 0:=by
  intro c;induction c with
  |zero=>exact fun _=>⟨0,Nat.zero_le _,rfl,fun i hi=>absurd hi (Nat.not_lt_zero i),fun i _ _=>Nat.zero_le _⟩
  | succ c ih =>
   intro R;obtain⟨t,A,e,r,H⟩:=ih U0;(have B:(P.take t).length=t:=by rw[List.length_take];omega);unfold elGo;rw[e];unfold elStep;simp only[B,M];by_cases b:t<P.length
   . rw [if_pos b];by_cases o:P.getD t 0=c
     . (have m : at2 C t c = 1 := by have:=J t t b b;rw [if_pos rfl,o] at this;exact this);(have v:findRow C c (P.length-t) t=t:=by obtain ⟨g,L⟩:∃ g,P.length-t=g+1:=⟨P.length-t-1,U0⟩;rw [L];unfold findRow;rw [if_neg U0]);(have z:swapRows C t t=C:=by (have K:C.getD t []=C[t]'U0:=by simp [List.getD,show t<C.length by omega]);unfold swapRows;rw [K];simp);(have y:normRow O C t c=C:=by unfold normRow;rw [if_pos m])
       have u:clearGo O c t C P.length=C:=clear_same (n:=P.length) (fun i hi hne=>by
        have:=J i t hi b
        rw[if_neg hne,o] at this
        exact this) _ zn
       rw[v,if_neg U0,z,y,u];refine⟨t+1,b,?_,fun i hi=>?_,fun i d h4=>?_⟩
       . rw[List.take_succ_eq_append_getElem b];congr 2;rw[<- o,getD_at b]
       . by_cases s : i = t
         . subst s;omega
         . have:=r i U0;omega
       . have:=asc t i U0 h4;omega
     . have l : ∀ i,t <= i -> i < P.length -> c < P.getD i 0 := fun i d h4 => by
        have Q:=H t zn b;by_cases s:i=t
        . subst s;omega
        . have:=asc t i U0 h4;omega
       (have v:findRow C c (P.length-t) t=P.length:=by rw[find_none _ _ fun i d h4=>D i U0 c (l i d U0)];omega);rw[if_pos v];exact⟨t,A,rfl,fun i hi=>by have:=r i hi;omega,fun i d h4=>l i d h4⟩
   . rw[if_neg b];exact⟨t,A,rfl,fun i hi=>by have:=r i hi;omega,fun i d h4=>U0⟩
 obtain⟨t,A,e,r,H⟩:=E cols zn;have N:t=P.length:=by
  rcases Nat.lt_or_ge t P.length with b|b
  . have o:=H t zn b;have d:=x t b;omega
  . omega
 rw[<- p];show(elGo O C cols).rows.take (elGo O C cols).piv.length=C;rw[e];show C.take (P.take t).length=C;rw[List.take_of_length_le (by rw[List.length_take];omega)]
end
end Al
theorem codeZ_canon{p m:Int}{mod:LI}{N:Nat}{rows:LL}(g:fieldOK p m mod=true)(j:1<=N)(i:N<=64)(h:Grid (p.toNat^m.toNat) rows.length N rows):codeZ p m mod (N:Int) (nzs (canonM (opsT p.toNat m.toNat (lOf p m mod)) rows N))=0/\Grid (p.toNat^m.toNat) (canonM (opsT p.toNat m.toNat (lOf p m mod)) rows N).length N (canonM (opsT p.toNat m.toNat (lOf p m mod)) rows N)/\(canonM (opsT p.toNat m.toNat (lOf p m mod)) rows N).length<=N:=by have b:=Al.fld_of (field_ft g);have d:=canon_grid b.self h;rw[<- canonM_len] at d;have c:=(elGo_piv (O:=opsT p.toNat m.toNat (lOf p m mod)) rows N).1;rw[<- canonM_len] at c;have f:=Al.canon_idem b h;refine⟨?_,d,c⟩;unfold codeZ;rw[if_neg (by rw[g];decide),if_neg (by unfold lengthZ;rw[if_neg U0];decide)];unfold spZ;rw[errC_of g d i U0,if_neg dc,if_pos];unfold canZ;rw[natR_nzs,Int.toNat_natCast,f]
end Go.Proofs.YtkcdlealipfnbaaGreat
namespace Go.Proofs.YtkcdlealipfnbaaGreat
open Go.RowKit Pln
open Al
def LowOk(d:StD):Prop:=∀(hfl:Fld (d.p.toNat^d.m.toNat) (opsS d)),MinW hfl d.n.toNat (natR d.gen) d.low.toNat
end Go.Proofs.YtkcdlealipfnbaaGreat
