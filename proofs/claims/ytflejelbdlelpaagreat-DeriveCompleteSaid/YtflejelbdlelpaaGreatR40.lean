/- Parts of the proof. -/
import Derived.Test.YtflejelbdlelpaaGreatR37
import Derived.Test.YtflejelbdlelpaaGreatR35
import Derived.Test.YtflejelbdlelpaaGreatR39
set_option maxRecDepth 100000
set_option maxHeartbeats 8000000
namespace Go.Proofs.YtflejelbdlelpaaGreat
open Go.RowKit Pln
structure StX (X:Wo->Nat->StD->List Value->Prop):Prop where
 keep:∀{w w':Wo}{B:Nat}{d:StD}{cs:List Value},X w B d cs->Below B w w'->X w' B d cs
 more:∀{w:Wo}{B B':Nat}{d:StD}{cs:List Value},X w B d cs->B<=B'->X w B' d cs
 stc:∀{w:Wo}{B:Nat}{d:StD}{cs:List Value},X w B d cs->StC w B d cs
theorem mod_small{p m:Int}{mod:LI}(h:fieldOK p m mod=true):mod.length<=8:=by
 have b:shapeM p m mod=true:=by unfold fieldOK at h;rw[Bool.and_eq_true] at h;exact h.1
 have d:=qeQ b;have f:=d.small.m2;by_cases c:m=1
 . unfold shapeM at b;rw[if_pos c,Bool.and_eq_true] at b;have:=b.2;rw[beq_iff_eq] at this;omega
 . have:=d.len c;omega
def WordOk(s:StD)(msg:LN):Prop:=Dv.wt (cwO s.p.toNat s.m.toNat (mdOf s.m s.mod) s.n.toNat (natR s.gen) msg)=0\/s.low<=(Dv.wt (cwO s.p.toNat s.m.toNat (mdOf s.m s.mod) s.n.toNat (natR s.gen) msg):Int)
end Go.Proofs.YtflejelbdlelpaaGreat
namespace Go.Proofs.YtflejelbdlelpaaGreat
open Pln
namespace Al
section
variable {q q1:Nat} {O O1:Ops} {h:Fld q O} {h1:Fld q1 O1}
structure Cat (emb:El q1 O1 h1->El q O h) (ni:Nat) (I:LL) (φ:El q O h->Nat->El q1 O1 h1):Prop where
 lin:∀x y a j,j<ni->φ (x+emb a*y) j=φ x j+a*φ y j
 zero:∀j,j<ni->φ 0 j=0
 inI:∀x,InC h1 ni I (φ x)
 inj:∀x,(∀j,j<ni->φ x j=0)->x=0
end
end Al
end Go.Proofs.YtflejelbdlelpaaGreat
namespace Go.Proofs.YtflejelbdlelpaaGreat
open Go.RowKit Pln
section
open Al
variable {p m:Nat} {md l:LN}
end
end Go.Proofs.YtflejelbdlelpaaGreat
namespace Go.Proofs.YtflejelbdlelpaaGreat
open Go.RowKit Pln
open Al
section
variable {q:Nat} {O:Ops}
theorem qcZ{rows:LL}{i j:Nat}(b:i<rows.length)(c:j<rows.length)(k:Nat):(swapRows rows i j).getD k []=if k=j then rows.getD i [] else if k=i then rows.getD j [] else rows.getD k []:=by unfold swapRows;rw[qeW _ _ _ _ _ so,qeW _ _ _ _ _ U0]
def UnitC(n c:Nat)(M:LL):Prop:=∀i j,i<n->j<c->at2 M i j=if i=j then 1 else 0
end
end Go.Proofs.YtflejelbdlelpaaGreat
namespace Go.Proofs.YtflejelbdlelpaaGreat
open Pln
namespace Al
theorem findRow_all(rows:LL)(c:Nat):∀ g k,findRow rows c g k=k+g->∀ i,k<=i->i<k+g->at2 rows i c=0
 |0,k,_,i,h1,h2=>by omega
 | g + 1,k,h,i,h1,h2 => by
   unfold findRow at h
   by_cases h0:at2 rows k c=0
   . rw[if_pos h0] at h
     by_cases e:i=k
     . subst e;exact h0
     . exact findRow_all rows c g (k+1) U0 i U0 U0
   . rw[if_neg h0] at h
     omega
theorem set_mem_self{α:Type}{l:List α}{i:Nat}{x:α}(b:i<l.length):x∈l.set i x:=List.mem_iff_getElem.2 ⟨i,by simpa using b,U2⟩
theorem set_mem_ne{α:Type}{l:List α}{i k:Nat}{x:α}(c:k<l.length)(b:i≠k):l[k]∈l.set i x:=List.mem_iff_getElem.2 ⟨k,by simpa using c,by simp[List.getElem_set_ne b]⟩
section
variable {q:Nat} {O:Ops} {h:Fld q O}
theorem norm_at2(_:Fld q O){n cols:Nat}{l:LL}(m:Grid q n cols l){t c:Nat}(p:t<n)(_:c<cols):∀ i,i<n->∀ j,j<cols->at2 (normRow O l t c) i j=if i=t then (if at2 l t c=1 then at2 l i j else O.mul (O.inv (at2 l t c)) (at2 l i j)) else at2 l i j:=by
 intro i g j d;have k:=m.1;unfold normRow;by_cases e:at2 l t c=1
 . rw[if_pos e];by_cases b:i=t
   . rw[if_pos b,if_pos e]
   . rw[if_neg b]
 . rw[if_neg e,at2_set U0];by_cases b:i=t
   . rw[if_pos b,if_pos b,if_neg e];obtain⟨f,_⟩:=m.row (i:=t) U0;rw[getD_at (by unfold scaleRow;rw[List.length_map,f];exact d)];unfold scaleRow;rw[List.getElem_map,<- getD_at];rw[b];rfl
   . rw[if_neg b,if_neg b]
theorem zero_below(h:Fld q O){n cols:Nat}{rows:LL}(K:Grid q n cols rows):∀ c,c<=cols->∀ i,(elGo O rows c).piv.length<=i->i<n->∀ j,j<c->at2 (elGo O rows c).rows i j=0
 |0,_=>fun i _ _ j hj=>by omega
 | c + 1,hc => by
   have ih:=zero_below h K c U0
   obtain⟨_,g⟩:=qdT h.self K c U0
   have v:=(qeN (O:=O) rows c).2
   rw[K.1] at v
   unfold elGo
   generalize elGo O rows c=s at *
   unfold elStep
   have u:=g.1
   by_cases x:s.piv.length<s.rows.length
   . simp only [if_pos x]
     have J:=qdF s.rows c (s.rows.length-s.piv.length) s.piv.length
     by_cases y:findRow s.rows c (s.rows.length-s.piv.length) s.piv.length=s.rows.length
     . simp only [if_pos y]
       intro i d b j hj
       by_cases e:j=c
       . subst e
         exact findRow_all s.rows j (s.rows.length-s.piv.length) s.piv.length U0 i d U0
       . exact ih i d b j U0
     . simp only [if_neg y]
       have m:=qcF s.rows c (s.rows.length-s.piv.length) s.piv.length U0
       generalize findRow s.rows c (s.rows.length-s.piv.length) s.piv.length=k at *
       have r:=qdC g (i:=s.piv.length) (j:=k) U0 U0
       have l:at2 (swapRows s.rows s.piv.length k) s.piv.length c≠0:=by
        unfold at2 at m ⊢
        rw[qfT U0 U0]
        exact m
       have I:∀ i,s.piv.length<=i->i<n->∀ j,j<c->at2 (swapRows s.rows s.piv.length k) i j=0:=fun i d b j hj=>by
        unfold at2
        rw[qcZ U0 U0]
        split
        . exact ih s.piv.length zn U0 j hj
        . split
          . exact ih k U0 U0 j hj
          . exact ih i d b j hj
       generalize swapRows s.rows s.piv.length k=p at *
       obtain⟨_,C⟩:=qfW h.self r (i:=s.piv.length) U0 U0 l
       have f:=norm_at2 h r (t:=s.piv.length) (c:=c) U0 U0
       have o:=r.at_ (i:=s.piv.length) (c:=c) U0 U0
       have E:at2 (normRow O p s.piv.length c) s.piv.length c=1:=by
        rw[f _ U0 c U0,if_pos rfl]
        by_cases e:at2 p s.piv.length c=1
        . rw[if_pos e]
          exact e
        . rw[if_neg e,h.mulC _ _ (h.invL _ o l) o,h.inv _ o l]
       have A:∀ i,s.piv.length<=i->i<n->∀ j,j<c->at2 (normRow O p s.piv.length c) i j=0:=fun i d b j hj=>by
        have z:=I i d b j hj
        rw[f i b j U0]
        split
        . split
          . exact z
          . rw[z,h.mulC _ _ (h.invL _ o l) (by have:=h.q1;omega),h.mulZ _ (h.invL _ o l)]
        . exact z
       generalize normRow O p s.piv.length c=H at *
       obtain⟨c1,c2,B,_⟩:=clear_at h C (t:=s.piv.length) (by omega:c<cols) U0 E n zn
       rw[u]
       intro i d b j hj
       have D:s.piv.length+1<=i:=by simpa using d
       show at2 (clearGo O c s.piv.length H n) i j=0
       by_cases e:j=c
       . subst e
         exact B i b U0
       . rw[c1 i b j U0 (A s.piv.length zn U0 j U0)]
         exact A i U0 b j U0
   . simp only[if_neg x]
     intro i d b
     omega
section
variable {Q:(Nat->El q O h)->Prop} {n cols:Nat}
theorem LinF.unadd(L:LinF q O h Q){v u:LN}{a:Nat}(d:a<q)(i:∀x∈v,x<q)(g:∀x∈u,x<q)(f:v.length=u.length)(b:Q (wd h (Pln.addRow O v a u)))(c:Q (wd h u)):Q (wd h v):=by
 have H:=El.fd (h:=h);have e:wd h v=fun j=>wd h (Pln.addRow O v a u) j+-El.of h a*wd h u j:=funext fun j=>by rw[wd_addRow d i g f j,H.negm,H.addA,H.addN,H.zadd]
 rw[e];exact L.step _ _ _ b c
theorem LinF.unclear(L:LinF q O h Q){rows:LL}(B:Grid q n cols rows){c t:Nat}(z:c<cols)(A:t<n):∀ i,i<=n->(∀ r∈clearGo O c t rows i,Q (wd h r))->∀ r∈rows,Q (wd h r)
 |0,_,hr=>hr
 | i + 1,hi,hr => by
   obtain⟨_,g⟩:=qdJ h.self B z A i U0
   refine LinF.unclear L B z A i U0 fun r hm=>?_
   unfold clearGo at hr
   generalize clearGo O c t rows i=R at *
   have y:=g.1
   by_cases b:i≠t/\at2 R i c≠0
   . rw [if_pos b] at hr
     obtain⟨k,d,rfl⟩:=List.mem_iff_getElem.1 hm
     by_cases e:i=k
     . subst e
       obtain⟨p,s⟩:=g.row (i:=i) U0
       obtain⟨u,v⟩:=g.row A
       have o:=hr _ (set_mem_self (l:=R) (x:=Pln.addRow O (R.getD i []) (O.neg (at2 R i c)) (R.getD t [])) d)
       have f:=hr _ (set_mem_ne (l:=R) (k:=t) (x:=Pln.addRow O (R.getD i []) (O.neg (at2 R i c)) (R.getD t [])) U0 b.1)
       have m:R.getD t []=R[t]'U0:=by simp[List.getD,show t<R.length by omega]
       have j:R.getD i []=R[i]:=by simp[List.getD,d]
       rw[<- m] at f
       rw[<- j]
       exact L.unadd (h.negL _ (g.at_ U0 z)) s v (by rw[p,u]) o f
     . exact hr _ (set_mem_ne d e)
   . rw[if_neg b] at hr
     exact hr r hm
theorem LinF.unelim(L:LinF q O h Q){rows:LL}(S:Grid q n cols rows):∀ c,c<=cols->(∀ r∈(elGo O rows c).rows,Q (wd h r))->∀ r∈rows,Q (wd h r)
 |0,_,hr=>hr
 | c + 1,hc,hr => by
   have H:=El.fd (h:=h)
   obtain⟨_,g⟩:=qdT h.self S c U0
   refine LinF.unelim L S c U0 ?_
   unfold elGo at hr
   generalize elGo O rows c=s at *
   unfold elStep at hr
   have B:=g.1
   by_cases D:s.piv.length<s.rows.length
   . simp only [if_pos D] at hr
     have P:=qdF s.rows c (s.rows.length-s.piv.length) s.piv.length
     by_cases E:findRow s.rows c (s.rows.length-s.piv.length) s.piv.length=s.rows.length
     . simp only[if_pos E] at hr
       exact hr
     . simp only [if_neg E] at hr
       have u:=qcF s.rows c (s.rows.length-s.piv.length) s.piv.length U0
       generalize findRow s.rows c (s.rows.length-s.piv.length) s.piv.length=k at *
       have p:=qdC g (i:=s.piv.length) (j:=k) U0 U0
       have v:at2 (swapRows s.rows s.piv.length k) s.piv.length c≠0:=by
        unfold at2 at u ⊢
        rw[qfT U0 U0]
        exact u
       suffices l1:∀ r∈swapRows s.rows s.piv.length k,Q (wd h r) by
        intro r z
        obtain⟨a,t,rfl⟩:=List.mem_iff_getElem.1 z
        have C:=p.1
        have f:∀b,b<n->Q (wd h ((swapRows s.rows s.piv.length k).getD b [])):=fun b hb=>l1 _ (mem_getD U0)
        have I:s.rows[a]=s.rows.getD a []:=by simp[List.getD,t]
        rw[I]
        by_cases o:a=k
        . have:=f s.piv.length U0
          rw[qfT U0 U0] at this
          rw[o]
          exact this
        . by_cases y : a = s.piv.length
          . have:=f k U0
            rw[qcZ U0 U0,if_pos rfl] at this
            rw[y]
            exact this
          . have:=f a U0
            rw[qcZ U0 U0,if_neg o,if_neg y] at this
            exact this
       generalize swapRows s.rows s.piv.length k=d at *
       obtain⟨_,K⟩:=qfW h.self p (i:=s.piv.length) U0 U0 v
       rw[B] at hr
       have m:=LinF.unclear L K U0 U0 n zn hr
       have A:=p.at_ (i:=s.piv.length) (c:=c) U0 U0
       have C:=p.1
       intro r z
       unfold normRow at m
       by_cases e:at2 d s.piv.length c=1
       . rw[if_pos e] at m
         exact m r z
       . rw [if_neg e] at m
         obtain⟨a,t,rfl⟩:=List.mem_iff_getElem.1 z
         by_cases o:s.piv.length=a
         . subst o
           have M:=m _ (set_mem_self (l:=d) (x:=scaleRow O (O.inv (at2 d s.piv.length c)) (d.getD s.piv.length [])) t)
           obtain⟨R,N⟩:=p.row (i:=s.piv.length) U0
           have J:d.getD s.piv.length []=d[s.piv.length]:=by simp[List.getD,t]
           have y:wd h d[s.piv.length]=fun j=>(0:El q O h)+El.of h (at2 d s.piv.length c)*wd h (scaleRow O (O.inv (at2 d s.piv.length c)) (d.getD s.piv.length [])) j:=funext fun j=>by
            rw[wd_scale (h.invL _ A v) N,H.addZ,<- H.mulA,<- El.of_mul A (h.invL _ A v),h.inv _ A v,El.of_one,H.mulU,J]
           rw[y]
           exact L.step _ _ _ L.zero M
         . exact m _ (set_mem_ne t o)
   . simp only[if_neg D] at hr
     exact hr
theorem LinF.back(L:LinF q O h Q){rows:LL}(p:Grid q n cols rows)(t:∀ r∈canonM O rows cols,Q (wd h r)):∀ r∈rows,Q (wd h r):=by
 refine L.unelim p cols zn fun r hm=>?_;obtain⟨_,g⟩:=qdT h.self p cols zn;have l:=zero_below h p cols zn;unfold canonM at t;generalize elGo O rows cols=s at *;obtain⟨k,d,rfl⟩:=List.mem_iff_getElem.1 hm;have o:=g.1;by_cases f:k<s.piv.length
 . exact t _ (List.mem_iff_getElem.2 ⟨k,by rw[List.length_take];omega,by rw[List.getElem_take]⟩)
 . have e : wd h s.rows[k] = fun _ => 0 := funext fun j => by
    obtain⟨m,_⟩:=g.row (i:=k) U0;(have b:s.rows[k]=s.rows.getD k []:=by simp[List.getD,d]);rw[b];by_cases c:j<cols
    . have:=l k U0 U0 j c;unfold at2 at this;unfold wd;rw[this];exact El.of_zero
    . unfold wd;(have:(s.rows.getD k []).getD j 0=0:=by unfold List.getD;rw[List.getElem?_eq_none (by unfold List.getD at m;omega)];rfl);rw[this];exact El.of_zero
   rw[e];exact L.zero
end
end
end Al
end Go.Proofs.YtflejelbdlelpaaGreat
namespace Go.Proofs.YtflejelbdlelpaaGreat
open Go.RowKit Pln
namespace Al
section
variable {q:Nat} {O:Ops}
theorem snoc_lt{l:LN}{c i:Nat}(b:i<l.length):(l++[c]).getD i 0=l.getD i 0:=by simp[List.getD,List.getElem?_append_left b]
theorem snoc_at{l:LN}{c:Nat}:(l++[c]).getD l.length 0=c:=by simp[List.getD]
theorem ech(h:Fld q O){n cols:Nat}{rows:LL}(R:Grid q n cols rows):∀ c,c<=cols->(∀ i k,i<k->k<(elGo O rows c).piv.length->(elGo O rows c).piv.getD i 0<(elGo O rows c).piv.getD k 0)/\∀ i,i<(elGo O rows c).piv.length->∀ j,j<(elGo O rows c).piv.getD i 0->at2 (elGo O rows c).rows i j=0
 |0,_=>⟨fun i k _ hk=>absurd hk (Nat.not_lt_zero k),fun i hi=>absurd hi (Nat.not_lt_zero i)⟩
 | c + 1,hc => by
   have ih:=ech h R c U0
   obtain⟨_,g⟩:=qdT h.self R c U0
   have x:=(qeN (O:=O) rows c).2
   rw[R.1] at x
   have I:=zero_below h R c U0
   have l:∀i,i<(elGo O rows c).piv.length->(elGo O rows c).piv.getD i 0<c:=fun i hi=>elGo_piv_lt O rows c _ (by rw[getD_at hi];exact List.getElem_mem _)
   unfold elGo
   generalize elGo O rows c=s at *
   unfold elStep
   have v:=g.1
   by_cases A:s.piv.length<s.rows.length
   . simp only [if_pos A]
     have Q:=qdF s.rows c (s.rows.length-s.piv.length) s.piv.length
     by_cases B:findRow s.rows c (s.rows.length-s.piv.length) s.piv.length=s.rows.length
     . simp only[if_pos B]
       exact ih
     . simp only [if_neg B]
       have o:=qcF s.rows c (s.rows.length-s.piv.length) s.piv.length U0
       generalize findRow s.rows c (s.rows.length-s.piv.length) s.piv.length=k at *
       have u:=qdC g (i:=s.piv.length) (j:=k) U0 U0
       have m:at2 (swapRows s.rows s.piv.length k) s.piv.length c≠0:=by
        unfold at2 at o ⊢
        rw[qfT U0 U0]
        exact o
       have N:∀j,j<c->at2 (swapRows s.rows s.piv.length k) s.piv.length j=0:=fun j hj=>by
        unfold at2
        rw[qfT U0 U0]
        exact I k U0 U0 j hj
       have L:∀i,i<s.piv.length->∀j,at2 (swapRows s.rows s.piv.length k) i j=at2 s.rows i j:=fun i hi j=>by
        unfold at2
        rw[qcZ U0 U0,if_neg U0,if_neg U0]
       generalize swapRows s.rows s.piv.length k=r at *
       obtain⟨_,C⟩:=qfW h.self u (i:=s.piv.length) U0 U0 m
       have f:=norm_at2 h u (t:=s.piv.length) (c:=c) U0 U0
       have p:=u.at_ (i:=s.piv.length) (c:=c) U0 U0
       have J:at2 (normRow O r s.piv.length c) s.piv.length c=1:=by
        rw[f _ U0 c U0,if_pos rfl]
        by_cases e:at2 r s.piv.length c=1
        . rw[if_pos e]
          exact e
        . rw[if_neg e,h.mulC _ _ (h.invL _ p m) p,h.inv _ p m]
       have y:∀j,j<c->at2 (normRow O r s.piv.length c) s.piv.length j=0:=fun j hj=>by
        have z:=N j hj
        rw[f _ U0 j U0,if_pos rfl]
        split
        . exact z
        . rw[z,h.mulC _ _ (h.invL _ p m) (by have:=h.q1;omega),h.mulZ _ (h.invL _ p m)]
       have M:∀i,i<s.piv.length->∀j,j<c->at2 (normRow O r s.piv.length c) i j=at2 s.rows i j:=fun i hi j hj=>by
        rw[f _ U0 j U0,if_neg U0,L i hi j]
       generalize normRow O r s.piv.length c=K at *
       obtain⟨c1,c2,P,_⟩:=clear_at h C (t:=s.piv.length) (by omega:c<cols) U0 J n zn
       rw[v]
       refine⟨fun i k hik hk=>?_,fun i hi j hj=>?_⟩
       . have H : k < s.piv.length + 1 := by simpa using hk
         show(s.piv++[c]).getD i 0<(s.piv++[c]).getD k 0
         by_cases b:k<s.piv.length
         . rw[snoc_lt b,snoc_lt U0]
           exact ih.1 i k hik b
         . obtain rfl : k = s.piv.length:=by omega
           rw[snoc_at,snoc_lt hik]
           exact l i hik
       . have D : i < s.piv.length + 1 := by simpa using hi
         have d:=hj
         show at2 (clearGo O c s.piv.length K n) i j=0
         by_cases b:i<s.piv.length
         . rw[snoc_lt b] at d
           have E:=l i b
           rw[c1 i U0 j U0 (y j U0),M i b j U0]
           exact ih.2 i b j d
         . obtain rfl : i = s.piv.length:=by omega
           rw[snoc_at] at d
           rw[c1 _ U0 j U0 (y j d)]
           exact y j d
   . simp only[if_neg A]
     exact ih
theorem clear_same{c t:Nat}{rows:LL}{n:Nat}(b:∀ i,i<n->i≠t->at2 rows i c=0):∀ i,i<=n->clearGo O c t rows i=rows
 |0,_=>rfl
 |i + 1,hi=>by
   unfold clearGo
   rw[clear_same b i U0,if_neg]
   rintro⟨h1,h2⟩
   exact h2 (b i U0 h1)
theorem find_none{rows:LL}{c:Nat}:∀ g k,(∀ i,k<=i->i<k+g->at2 rows i c=0)->findRow rows c g k=k+g
 |0,_,_=>rfl
 |g + 1,k,h=>by
   unfold findRow
   rw[if_pos (h k zn U0),find_none g (k+1) fun i h1 h2=>h i U0 U0]
   omega
theorem canon_idem(h:Fld q O){n cols:Nat}{rows:LL}(T:Grid q n cols rows):canonM O (canonM O rows cols) cols=canonM O rows cols:=by
 obtain⟨C,r⟩:∃C,C=canonM O rows cols:=⟨_,rfl⟩;obtain⟨P,l⟩:∃P,P=(elGo O rows cols).piv:=⟨_,rfl⟩;have N:C.length=P.length:=by rw[r,l,canonM_len]
 obtain⟨d,J⟩:=ech h T cols zn;have K:∀i k,i<P.length->k<P.length->at2 C i (P.getD k 0)=if i=k then 1 else 0:=fun i k hi hk=>by rw[r,l];rw[l] at hi hk;exact unit_canon h T hi hk
 have y:∀i,i<P.length->P.getD i 0<cols:=fun i hi=>by rw[l] at hi ⊢;exact elGo_piv_lt O rows cols _ (by rw[getD_at hi];exact List.getElem_mem _)
 have E:∀i,i<P.length->∀j,j<P.getD i 0->at2 C i j=0:=fun i hi j hj=>by
  rw[l] at hi hj;have:=J i hi j hj;unfold at2 at this ⊢;rw[r];unfold canonM;have e:((elGo O rows cols).rows.take (elGo O rows cols).piv.length).getD i []=(elGo O rows cols).rows.getD i []:=by simp[List.getD,hi]
  rw[e];exact this
 rw [<- l] at d;have H:∀ c,c<=cols->∃ t,t<=P.length/\elGo O C c=⟨C,P.take t⟩/\(∀ i,i<t->P.getD i 0<c)/\∀ i,t<=i->i<P.length->c<=P.getD i 0:=by
  intro c;induction c with
  |zero=>exact fun _=>⟨0,Nat.zero_le _,rfl,fun i hi=>absurd hi (Nat.not_lt_zero i),fun i _ _=>Nat.zero_le _⟩
  | succ c ih =>
   intro S;obtain⟨t,B,e,s,I⟩:=ih U0;(have D:(P.take t).length=t:=by rw[List.length_take];omega);unfold elGo;rw[e];unfold elStep;simp only[D,N];by_cases b:t<P.length
   . rw [if_pos b];by_cases p:P.getD t 0=c
     . (have o : at2 C t c = 1 := by have:=K t t b b;rw [if_pos rfl,p] at this;exact this);(have x:findRow C c (P.length-t) t=t:=by obtain ⟨g,M⟩:∃ g,P.length-t=g+1:=⟨P.length-t-1,U0⟩;rw [M];unfold findRow;rw [if_neg U0]);(have A:swapRows C t t=C:=by (have L:C.getD t []=C[t]'U0:=by simp [List.getD,show t<C.length by omega]);unfold swapRows;rw [L];simp);(have z:normRow O C t c=C:=by unfold normRow;rw [if_pos o])
       have v:clearGo O c t C P.length=C:=clear_same (n:=P.length) (fun i hi hne=>by
        have:=K i t hi b
        rw[if_neg hne,p] at this
        exact this) _ zn
       rw[x,if_neg U0,A,z,v];refine⟨t+1,b,?_,fun i hi=>?_,fun i f h4=>?_⟩
       . rw[List.take_succ_eq_append_getElem b];congr 2;rw[<- p,getD_at b]
       . by_cases u : i = t
         . subst u;omega
         . have:=s i U0;omega
       . have:=d t i U0 h4;omega
     . have m : ∀ i,t <= i -> i < P.length -> c < P.getD i 0 := fun i f h4 => by
        have R:=I t zn b;by_cases u:i=t
        . subst u;omega
        . have:=d t i U0 h4;omega
       (have x:findRow C c (P.length-t) t=P.length:=by rw[find_none _ _ fun i f h4=>E i U0 c (m i f U0)];omega);rw[if_pos x];exact⟨t,B,rfl,fun i hi=>by have:=s i hi;omega,fun i f h4=>m i f h4⟩
   . rw[if_neg b];exact⟨t,B,rfl,fun i hi=>by have:=s i hi;omega,fun i f h4=>U0⟩
 obtain⟨t,B,e,s,I⟩:=H cols zn;have Q:t=P.length:=by
  rcases Nat.lt_or_ge t P.length with b|b
  . have p:=I t zn b;have f:=y t b;omega
  . omega
 rw[<- r];show(elGo O C cols).rows.take (elGo O C cols).piv.length=C;rw[e];show C.take (P.take t).length=C;rw[List.take_of_length_le (by rw[List.length_take];omega)]
end
end Al
theorem codeZ_canon{p m:Int}{mod:LI}{N:Nat}{rows:LL}(g:fieldOK p m mod=true)(j:1<=N)(i:N<=64)(h:Grid (p.toNat^m.toNat) rows.length N rows):codeZ p m mod (N:Int) (nzs (canonM (opsT p.toNat m.toNat (lOf p m mod)) rows N))=0/\Grid (p.toNat^m.toNat) (canonM (opsT p.toNat m.toNat (lOf p m mod)) rows N).length N (canonM (opsT p.toNat m.toNat (lOf p m mod)) rows N)/\(canonM (opsT p.toNat m.toNat (lOf p m mod)) rows N).length<=N:=by have b:=Al.fld_of (field_ft g);have d:=canon_grid b.self h;rw[<- canonM_len] at d;have c:=(qeN (O:=opsT p.toNat m.toNat (lOf p m mod)) rows N).1;rw[<- canonM_len] at c;have f:=Al.canon_idem b h;refine⟨?_,d,c⟩;unfold codeZ;rw[if_neg (by rw[g];decide),if_neg (by unfold lengthZ;rw[if_neg U0];decide)];unfold spZ;rw[errC_of g d i U0,if_neg dc,if_pos];unfold canZ;rw[natR_nzs,Int.toNat_natCast,f]
end Go.Proofs.YtflejelbdlelpaaGreat
namespace Go.Proofs.YtflejelbdlelpaaGreat
open Go.RowKit Pln
open Al
theorem combO_zero(O:Ops):∀ (rows:LL)(msg out:LN),(∀ x∈msg,x=0)->Dv.combO O out msg rows=out
 |[],msg,out,_=>by cases msg<;>rfl
 |r :: rs,[],out,_=>rfl
 |r :: rs,x :: xs,out,h=>by
   unfold Dv.combO
   rw[if_pos (h x U2)]
   exact combO_zero O rs xs out (fun y hy=>h y (by simp[hy]))
theorem true_wt{d:StD}(j:TrueOk d)(o:0<d.p.toNat^d.m.toNat){i:LN}(k:i.length=(natR d.gen).length)(l:∀x∈i,x<d.p.toNat^d.m.toNat):
 Dv.wt (cwO d.p.toNat d.m.toNat (mdOf d.m d.mod) d.n.toNat (natR d.gen) i)=0\/d.low<=((Dv.wt (cwO d.p.toNat d.m.toNat (mdOf d.m d.mod) d.n.toNat (natR d.gen) i):Nat):Int):=by
 obtain⟨n,c,f,g⟩:=Dv.index_of o (natR d.gen).length i k l;by_cases h:n=0
 . left;unfold cwO;rw[combO_zero _ _ _ _ (g h)];exact Dv.wt_zeros _
 . right;unfold TrueOk at j;rw[natR_len] at c;have b:=Dv.leastGo_at (wtAt d.p.toNat d.m.toNat (mdOf d.m d.mod) d.n.toNat (natR d.gen)) ((d.p.toNat^d.m.toNat)^d.gen.length-1) 1 (d.n.toNat+1) n U0 U0;(have e:wtAt d.p.toNat d.m.toNat (mdOf d.m d.mod) d.n.toNat (natR d.gen) n=Dv.wt (cwO d.p.toNat d.m.toNat (mdOf d.m d.mod) d.n.toNat (natR d.gen) i):=by unfold wtAt;rw[f]);rw[e] at b;exact Int.le_trans j (Int.ofNat_le.2 b)
theorem mdOf_len{d:StD}(f:fieldOK d.p d.m d.mod=true):(mdOf d.m d.mod).length=d.m.toNat:=by
 have c:=qeQ (by have h:=f;unfold fieldOK at h;rw[Bool.and_eq_true] at h;exact h.1:shapeM d.p d.m d.mod=true);by_cases b:d.m=1
 . rw[b];simp[mdOf]
 . unfold mdOf;rw[if_neg b,List.length_map,c.len b]
def LowOk(d:StD):Prop:=∀(hfl:Fld (d.p.toNat^d.m.toNat) (opsS d)),MinW hfl d.n.toNat (natR d.gen) d.low.toNat
theorem true_low{d:StD}(hd:formZ d=0)(k:TrueOk d):LowOk d:=fun hfl=>by
 have f:=form_is hd
 have g:=field_ft f.field
 have j:=hfl.q1
 have c:∀r∈natR d.gen,Dv.Ok (d.p.toNat^d.m.toNat) d.n.toNat r:=fun r h=>f.grid.2 r h
 have i:OpsEq (d.p.toNat^d.m.toNat) (opsS d) (refOps d.p.toNat d.m.toNat (mdOf d.m d.mod)):=ops_eq g (mdOf_len f.field)
 refine minW_of c fun msg hl hm=>?_
 have b:=true_wt k U0 hl hm
 have e:cwO d.p.toNat d.m.toNat (mdOf d.m d.mod) d.n.toNat (natR d.gen) msg=Dv.combO (opsS d) (List.replicate d.n.toNat 0) msg (natR d.gen):=combO_eq i c msg _ hm (Dv.zeros_ok U0)
 rw[e] at b
 rcases b with b|b
 . exact .inl b
 . right;omega
def SameF(s p:StD):Prop:=s.p=p.p/\s.m=p.m/\s.mod=p.mod
theorem SameF.ops{s p:StD}(h:SameF s p):p.p.toNat^p.m.toNat=s.p.toNat^s.m.toNat/\opsS p=opsS s:=by obtain⟨b,c,d⟩:=h;unfold opsS;rw[b,c,d];exact⟨rfl,rfl⟩
theorem SameF.grid{s p:StD}(e:SameF s p)(b:formZ p=0):Grid (s.p.toNat^s.m.toNat) (natR p.gen).length p.n.toNat (natR p.gen):=by have h:=(form_is b).grid;rwa [e.ops.1] at h
theorem gen_coef{s p:StD}(e:SameF s p)(g:formZ p=0)(hfl:Fld (s.p.toNat^s.m.toNat) (opsS s)):∃piv:LN,piv=(elGo (opsS p) (natR p.gen) p.n.toNat).piv/\piv.length=(natR p.gen).length/\(∀i k,i<(natR p.gen).length->k<(natR p.gen).length->at2 (natR p.gen) i (piv.getD k 0)=if i=k then 1 else 0)/\∀k,k<(natR p.gen).length->piv.getD k 0<p.n.toNat:=by
 have c:=e.grid g;have b:=qgB g;rw[e.ops.2] at b ⊢;have d:(elGo (opsS s) (natR p.gen) p.n.toNat).piv.length=(natR p.gen).length:=by rw[<- canonM_len,b]
 refine⟨_,rfl,d,fun i k hi hk=>?_,fun k hk=>?_⟩
 . have:=unit_canon hfl c (i:=i) (k:=k) U0 U0;rwa [b] at this
 . have f:=elGo_piv_lt (opsS s) (natR p.gen) p.n.toNat ((elGo (opsS s) (natR p.gen) p.n.toNat).piv.getD k 0) (by rw[getD_at U0];exact List.getElem_mem _);omega
end Go.Proofs.YtflejelbdlelpaaGreat
namespace Go.Proofs.YtflejelbdlelpaaGreat
open Go.RowKit Pln Go.Proofs.Tryz
theorem kerK_eq{q n cols:Nat}{O b:Ops}(E:OpsEq q O b){rows:LL}(d:Grid q n cols rows)(piv:LN){c:Nat}(f:c<cols):∀ i,i<=n->kerK O rows piv cols c i=kerK b rows piv cols c i
 |0,_=>rfl
 | i + 1,hi => by
   unfold kerK
   have hr:=d.row (i:=i) U0
   have:(rows.getD i []).getD c 0=(rows.getD i [])[c]'(by rw[hr.1];exact f):=by
    have:∀(l:LN)(hj:c<l.length),l.getD c 0=l[c]:=fun l hj=>by simp[List.getD,hj]
    exact this _ _
   rw[kerK_eq E d piv f i U0,this,(E.neg _ (hr.2 _ (List.getElem_mem _))).1]
theorem ker_eq{q n cols:Nat}{O i:Ops}(E:OpsEq q O i)(k:OpsEq q O O)(l:1<q){rows:LL}(j:Grid q n cols rows):kerM O rows cols=kerM i rows cols:=by
 have f:=canon_eq E j;have g:=(qdT E j cols zn).1;have b:=canon_grid k j;have h:kerRows O (canonM O rows cols) (elGo O rows cols).piv cols=kerRows i (canonM i rows cols) (elGo i rows cols).piv cols:=by
  rw[<- f,<- g];unfold kerRows;refine List.map_congr_left fun c hc=>?_;have d:c<cols:=by have:=(List.mem_filter.1 hc).1;simpa using this
  exact kerK_eq E b _ d _ zn
 unfold kerM;rw[<- h];exact canon_eq E (kerRows_grid k l b rfl)
def MakePostX(w:Wo)(p m:Int)(zs:LI)(cols:Nat)(K:LL)(e:Ending)(w':Wo):Prop:=
 (∃(A':OA)(c':Nat)(G:OA)(R:LL)(k:Nat),e=.returned (C7 p m A' zs.length c' cols G R.length k)/\IntsUp w' w.heap.size A' zs/\RowsUp w' w.heap.size G (nzs R)/\R.length<=256/\R=K)/\zB w w'
theorem rmake_x(p m:Nat)(md:LN)(A:OA)(zs:LI)(c:Nat)(rows:LL)(L:OA)(c2 cols:Nat)(w:Wo)(Q:RFld p m md A zs.length w.heap.size w)(R:∃l,FT p m md l)(T:zI w A zs)(M:zs.length<=1000000)(K:Grid (p^m) rows.length cols rows)(N:zR w L (nzs rows))(U:1<=cols)(V:cols<=256)(S:rows.length<=256):
 zC 12 #[C4 p m A zs.length c,zL L rows.length c2,Y cols] w (MakePostX w p m zs cols (canonM (refOps p m md) rows cols)):=by
 have n:=zH (b2_new w (C5 p m A zs.length c) 24 (Co) 27);have C:=zH T
 have h:zK (∀W:Wo,zB w W->zC 23 #[C4 p m A zs.length c,zL L rows.length c2,Y cols] W fun e w'=>(∃(A':OA)(ck:Nat)(VA:OA)(c3:Nat),e=.returned (.tuple #[zL A' (canonM (refOps p m md) rows cols).length ck,zL VA (elGo (refOps p m md) rows cols).piv.length c3])/\RowsUp w' W.heap.size A' (nzs (canonM (refOps p m md) rows cols))/\zI w' VA (nz (elGo (refOps p m md) rows cols).piv))/\zB W w'):=fun W hW=>
  rcanon_c p m md A zs.length c rows L c2 cols W ((Q.keep hW).more hW.size) R K ((N.keep hW).more hW.size) U V S
 have v:(canonM (refOps p m md) rows cols).length<=256:=by rw[canonM_len];exact Nat.le_trans (qeN (O:=refOps p m md) rows cols).2 S
 clear Q R K N T;generalize (elGo (refOps p m md) rows cols).piv=J at *;generalize canonM (refOps p m md) rows cols=f at *;go_enter func12,ntmps12;go_upto_region 1 with fail;generalize (w.alloc (C2 p m A zs.length c)).alloc (Ce)=y at *;have d:=zH n.o.range;have g:=zH (h.o y n.o.below);go_wp2_with (refine wpList_load_mid rfl 24 (.tmp 3) rfl w.heap.size 0 rfl (C5 p m A zs.length c) _ d.o underlying24 rfl fieldSize ?_);go_fit g.o;rintro e z ⟨⟨A',ck,VA,c3,rfl,hra,_⟩,hb1⟩;have b:=zH (n.o.grow hb1);have t:=zH hra;have u:=zH n.o.2.2.2;clear hb1 hra g n d h;have d:=zH b.o.range;have i:=zH (rfield_c p m zs A c z ((C.o.keep b.o.below).more b.o.below.size) M);go_upto_region 2 with fail;go_wp2_with (refine wpList_load_mid rfl 24 (.tmp 3) rfl w.heap.size 0 rfl (C5 p m A zs.length c) _ d.o underlying24 rfl fieldSize ?_);go_fit i.o;rintro e r ⟨⟨B',c',rfl,hia⟩,hb2⟩;have q:=zH (b.o.grow hb2);have j:=zH (t.o.grow hb2);have s:=zH hia;have B:=zH q.o.2.1;have x:=zH (q.o.set (C3 p m B' zs.length c' cols A' f.length ck));clear hb2 hia i;go_wp2_with (refine wpList_store_row rfl 27 (.tmp 6) (.tmp 20) rfl r (w.heap.size+1) 27 #[Y 0,Y 0,zL none 0 0,Y 0,zL none 0 0] (Cb p m B' zs.length c' cols A' f.length ck) rfl rfl B.o codeSize rfl sc ?_);refine bodyPost_ret (results_cell_row (P:=prog) rfl _ _ (w.heap.size+1) 27 (Cb p m B' zs.length c' cols A' f.length ck) (0,0) _ rfl x.o.2.1 underlying27 rfl codeSize) rfl ?_;have D:=u.o;have E:=b.o.2.2.2;have H:IntsUp (r.setRow (w.heap.size+1) (Cb p m B' zs.length c' cols A' f.length ck)) z.heap.size B' zs:=s.o.of_blocks U2 fun k hk _=>setRow_other r (w.heap.size+1) k _ U0;have I:RowsUp (r.setRow (w.heap.size+1) (Cb p m B' zs.length c' cols A' f.length ck)) y.heap.size A' (nzs f):=j.o.of_blocks U2 fun k hk _=>setRow_other r (w.heap.size+1) k _ U0;exact⟨⟨B',c',A',f,ck,rfl,H.lower U0,I.lower U0,v,rfl⟩,x.o.below⟩
theorem rparity_x{p m:Nat}{md:LN}{A:OA}{n cols:Nat}{rows:LL}{B:OA}{w:Wo}(h:RCode p m md A n cols rows B w)(c ch:Nat):
 zC 13 #[C7 p m A n c cols B rows.length ch] w (NullPostX w (p^m) cols (kerM (refOps p m md) rows cols)):=by
 have b:=zH (bx_new w (C3 p m A n c cols B rows.length ch) 27);have g:=h.n1;have q:=h.n2;have i:=h.len;have r:zK (∀W:Wo,zB w W->zC 25 #[C4 p m A n c,zL B rows.length ch,Y cols] W (NullPostX W (p^m) cols (kerM (refOps p m md) rows cols))):=fun W hW=>by have j:=h.lift hW;exact rnull_x p m md A n c rows B ch cols W j.fld j.ft j.grid j.at_ g U0 i
 clear h;generalize kerM (refOps p m md) rows cols=y at *;go_enter func13,ntmps13;go_upto_region 1 with fail;generalize w.alloc (C8 p m A n c cols B rows.length ch)=l at *;have f:=zH b.o.field;have d:=zH (r.o l b.o.below);have v:l.cell? (zA w.heap.size 3)=some (Y (cols:Int)):=b.o.cell rfl;have x:l.cell? (zA w.heap.size 4)=some (zL B rows.length ch):=b.o.cell rfl;go_wp2_with (refine wpList_load_mid rfl 24 (.tmp 3) rfl w.heap.size 0 rfl (C5 p m A n c) _ f.o underlying24 rfl fieldSize ?_);refine d.o.mono ?_;rintro e z ⟨⟨A',R,ck,rfl,g,q,i,rfl⟩,hb⟩;have k:=zH (b.o.grow hb);have s:=zH g;have t:=zH q;have u:=zH i;clear hb g q i r d b f v x;go_wp2;go_ret;exact⟨⟨A',R,ck,rfl,s.out,t.out,u.out,rfl⟩,k.o.below⟩
def DualPostX(w:Wo)(d:StD)(K:Nat)(e:Ending)(w':Wo):Prop:=
 (∃(A':OA)(c':Nat)(G:OA)(R:LL)(k:Nat),e=.returned (.tuple #[C7 d.p d.m A' d.mod.length c' d.n G R.length k,Y 0])/\zI w' A' d.mod/\zR w' G (nzs R)/\R.length<=256/\R.length=K)/\zB w w'
theorem rdual_x(d:StD)(Am:OA)(cm:Nat)(A:OA)(c:Nat)(w:Wo)(hz:codeZ d.p d.m d.mod d.n d.gen=0)(hM:zI w Am d.mod)(hA:zR w A d.gen):
 zC 7 #[C7 d.p d.m Am d.mod.length cm d.n A d.gen.length c] w (DualPostX w d (kerM (opsS d) (natR d.gen) d.n.toNat).length):=by
 have D:=zH (b2_new w (C3 d.p d.m Am d.mod.length cm d.n A d.gen.length c) 27 (Co) 27);obtain⟨j,n1,n2,Z,g,aa⟩:=qfR hz;have ac:=mod_small j;have y:=zH hM;have K:=zH hA;have v:zK (∀W:Wo,zB w W->zC 11 #[C7 d.p d.m Am d.mod.length cm d.n A d.gen.length c] W fun e w'=>e=.returned (Y 0)/\zB W w'):=fun W b=>by have:=rcodecheck_c d.p d.m d.mod Am cm d.n d.gen A c W ((y.o.keep b).more b.size) U0 ((K.o.keep b).more b.size) U0;rw[hz] at this;exact this
 obtain⟨_,O,Q,S,T⟩:=code_nat hz hM hA;have B:zK (∀W:Wo,zB w W->zC 13 #[C7 d.p d.m Am d.mod.length cm d.n A d.gen.length c] W (NullPostX W (d.p.toNat^d.m.toNat) d.n.toNat (kerM (refOps d.p.toNat d.m.toNat (mdOf d.m d.mod)) (natR d.gen) d.n.toNat))):=fun W b=>by obtain⟨l,_⟩:=code_nat hz ((y.o.keep b).more b.size) ((K.o.keep b).more b.size);have:=rparity_x l cm c;rw[O,Q,S,T] at this;exact this
 have z:zK (∀(R:LL)(A2:OA)(c2:Nat)(W:Wo),zB w W->Grid (d.p.toNat^d.m.toNat) R.length d.n.toNat R->zR W A2 (nzs R)->R.length<=256->zC 12 #[C4 d.p d.m Am d.mod.length cm,zL A2 R.length c2,Y d.n] W fun e w'=>(∃(A':OA)(c':Nat)(G:OA)(R':LL)(k:Nat),e=.returned (C7 d.p d.m A' d.mod.length c' d.n G R'.length k)/\IntsUp w' W.heap.size A' d.mod/\RowsUp w' W.heap.size G (nzs R')/\R'.length<=256/\R'=canonM (refOps d.p.toNat d.m.toNat (mdOf d.m d.mod)) R d.n.toNat)/\zB W w'):=fun R A2 c2 W b hg hr hl=>by obtain⟨l,_⟩:=code_nat hz ((y.o.keep b).more b.size) ((K.o.keep b).more b.size);have:=rmake_x d.p.toNat d.m.toNat (mdOf d.m d.mod) Am d.mod cm R A2 c2 d.n.toNat W l.fld l.ft ((y.o.keep b).more b.size) U0 hg hr U0 U0 hl;unfold MakePostX at this;rw[O,Q,S] at this;exact this
 have ab:=T;have x:zK ((canonM (refOps d.p.toNat d.m.toNat (mdOf d.m d.mod)) (kerM (refOps d.p.toNat d.m.toNat (mdOf d.m d.mod)) (natR d.gen) d.n.toNat) d.n.toNat).length=(kerM (opsS d) (natR d.gen) d.n.toNat).length):=by have H:=field_ft j;have f:=Al.fld_of H;have I:OpsEq (d.p.toNat^d.m.toNat) (opsS d) (refOps d.p.toNat d.m.toNat (mdOf d.m d.mod)):=ops_eq H (mdOf_len j);show _=_;have V:=ker_grid f g;have X:Grid (d.p.toNat^d.m.toNat) (kerM (opsS d) (natR d.gen) d.n.toNat).length d.n.toNat (kerM (opsS d) (natR d.gen) d.n.toNat):=⟨rfl,V.2⟩;rw[<- ker_eq I f.self f.q1 g,<- canon_eq I X];have U:canonM (opsS d) (kerM (opsS d) (natR d.gen) d.n.toNat) d.n.toNat=kerM (opsS d) (natR d.gen) d.n.toNat:=Al.canon_idem f (kerRows_grid f.self f.q1 (canon_grid f.self g) rfl);rw[U]
 clear hM hA hz j Z g O Q S T y K;generalize d.p.toNat^d.m.toNat=q at *;generalize canonM (refOps d.p.toNat d.m.toNat (mdOf d.m d.mod))=CM at *;generalize kerM (refOps d.p.toNat d.m.toNat (mdOf d.m d.mod)) (natR d.gen) d.n.toNat=KR at *;generalize (kerM (opsS d) (natR d.gen) d.n.toNat).length=KL at *;generalize d.n.toNat=nn at *;go_enter func7,ntmps7;go_upto_region 1 with fail;generalize (w.alloc (C8 d.p d.m Am d.mod.length cm d.n A d.gen.length c)).alloc (Ce)=W0 at *;have C:=zH D.o.range;have u:=zH (v.o W0 D.o.below);go_wp2_with (refine wpList_load_mid rfl 27 (.tmp 1) rfl w.heap.size 0 rfl (C3 d.p d.m Am d.mod.length cm d.n A d.gen.length c) _ C.o underlying27 rfl codeSize ?_);refine u.o.mono ?_;rintro e w1 ⟨rfl,hb1⟩;have E:=zH (D.o.grow hb1);have ad:=D.o.2.2.2;clear hb1 u C D v;go_upto_region 4 with fail;have s:zK (B2 w (C3 d.p d.m Am d.mod.length cm d.n A d.gen.length c) 27 (Co) 27 w1.drew):=E.o.grow zV.drew;refine qaS 7 7 (B2 w (C3 d.p d.m Am d.mod.length cm d.n A d.gen.length c) 27 (Co) 27) [(1,0),(0,1),(0,2),(1,4),(0,5),(2,3),(2,6)] default U1 U1 (fun _ _ d _ _ h=>by cases d<;>exact h) s.o ?_;simp only[List.map_cons,List.map_nil,List.getD_cons_zero,List.getD_cons_succ];generalize w1.drew=Wd at *;clear E;apply qaM rfl
 . intro W;go_simp;rfl
 go_simp;refine qaT rfl 24 (.tmp 11) rfl w.heap.size 0 rfl (C5 d.p d.m Am d.mod.length cm) _ (fun W b=>b.field) underlying24 rfl fieldSize ?_;go_simp;refine qaT rfl 27 (.tmp 1) rfl w.heap.size 0 rfl (C3 d.p d.m Am d.mod.length cm d.n A d.gen.length c) _ (fun W b=>b.range) underlying27 rfl codeSize ?_;go_simp;apply qaM rfl
 . intro W;go_simp;rfl
 go_simp;apply qbF rfl
 . intro W b;have z0:W.cell? (zA w.heap.size 3)=some (Y d.n):=b.cell rfl;go_simp;rfl
 go_simp;apply qbE rfl
 . go_simp;exact⟨rfl,rfl⟩
 with_reducible refine(B.o Wd s.o.below).mono ?_
 rintro e w2 ⟨⟨A',R,ck,rfl,hra,g,hrl,rfl⟩,hb2⟩;have i:=zH (s.o.grow hb2);have r:=zH (z.o R A' ck w2 i.o.below g hra hrl);refine⟨_,rfl,i.o,?_⟩;clear hb2 hra g z B;go_simp;apply qbE rfl
 . go_simp;exact⟨rfl,rfl⟩
 with_reducible refine r.o.mono ?_
 rintro e J ⟨⟨B',c',G,R',k',rfl,hi3,hr3,hl3,hk3⟩,hb3⟩;have M:zK (R'.length=KL):=by rw[hk3];exact x.o
 clear hk3 x;have t:=zH (i.o.grow hb3);have L:=zH hi3;have N:=zH hr3;have ae:=i.o.2.2.2;refine⟨_,rfl,t.o,?_⟩;clear hb3 hi3 hr3 r;go_simp;refine qbH ?_;show wpList _ _ _ _ _ _;go_simp;have HK:=zH t.o.2.1;have HY:=zH (t.o.set (C3 d.p d.m B' d.mod.length c' d.n G R'.length k'));go_wp2_with (refine wpList_store_row rfl 27 (.tmp 2) (.tmp 17) rfl J (w.heap.size+1) 27 #[Y 0,Y 0,zL none 0 0,Y 0,zL none 0 0] (Cb d.p d.m B' d.mod.length c' d.n G R'.length k') rfl rfl HK.o codeSize rfl sc ?_);refine bodyPost_ret (results_row_one (P:=prog) rfl _ _ (w.heap.size+1) 27 (Cb d.p d.m B' d.mod.length c' d.n G R'.length k') (0,0) _ _ rfl rfl HY.o.2.1 underlying27 rfl codeSize) rfl ?_;have hu:IntsUp (J.setRow (w.heap.size+1) (Cb d.p d.m B' d.mod.length c' d.n G R'.length k')) w2.heap.size B' d.mod:=L.o.of_blocks U2 fun k hk _=>setRow_other J (w.heap.size+1) k _ U0;have hv:RowsUp (J.setRow (w.heap.size+1) (Cb d.p d.m B' d.mod.length c' d.n G R'.length k')) w2.heap.size G (nzs R'):=N.o.of_blocks U2 fun k hk _=>setRow_other J (w.heap.size+1) k _ U0;exact⟨⟨B',c',G,R',k',rfl,hu.ints,hv.rowsAt,hl3,M.o⟩,HY.o.below⟩
theorem dcheck_s(b:Nat)(z:Int)(w:Wo)(j:zC 10 #[zS b 1 1,Y 0] w fun e w'=>e=.returned (Y z)/\zB w w'):
 zC 6 #[zS b 1 1] w fun e w'=>e=.returned (Y z)/\zB w w':=by
 have g:=zH j;clear j;go_enter func6,ntmps6;go_wp2;go_loopw [10] (fun v10 wr=>(v10=Y 0/\wr=w)\/(v10=Y 1/\zB w wr/\z=0)) (fun v10 _=>1-(intOf v10).toNat);case atStart=>exact .inl ⟨rfl,rfl⟩
 case round =>
  rcases hrel with⟨rfl,rfl⟩|⟨rfl,d,rfl⟩
  . go_wp2_with fail;go_fit g.o;rintro e i ⟨rfl,hb1⟩;have c:=zH hb1;clear hb1;by_cases f:z=0
    . subst f;go_wp2;go_roundw;case rel=>exact .inr ⟨U3,c.o,trivial⟩
      case measure=>simp[intOf]
    . have h:(z != 0)=true:=bne_iff_ne.2 f;go_wp2;go_ret;exact⟨rfl,c.o⟩
  . have c:=zH d;clear d;go_wp2;go_ret;exact⟨rfl,c.o⟩
end Go.Proofs.YtflejelbdlelpaaGreat
