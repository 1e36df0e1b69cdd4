/- Parts of the proof. -/
import Derived.Test.YtflejelbdlelpaaGreatR21
set_option maxRecDepth 100000
set_option maxHeartbeats 8000000
namespace Go.Proofs.YtflejelbdlelpaaGreat
open Pln
namespace Al
structure El (q:Nat) (O:Ops) (h:Fld q O) where
 n:Nat
 lt:n<q
section
variable {q:Nat} {O:Ops} {h:Fld q O}
theorem El.eq{x y:El q O h}(e:x.n=y.n):x=y:=by cases x;cases y;simp only at e;subst e;rfl
instance:Add (El q O h):=⟨fun x y=>⟨O.add x.n y.n,h.addL _ _ x.lt y.lt⟩⟩
instance:Mul (El q O h):=⟨fun x y=>⟨O.mul x.n y.n,h.mulL _ _ x.lt y.lt⟩⟩
instance:Neg (El q O h):=⟨fun x=>⟨O.neg x.n,h.negL _ x.lt⟩⟩
instance:Zero (El q O h):=⟨⟨0,by have:=h.q1;omega⟩⟩
instance:One (El q O h):=⟨⟨1,h.q1⟩⟩
theorem El.fd:Fd (El q O h) where
 addC x y:=El.eq (h.addC _ _ x.lt y.lt)
 addA x y z:=El.eq (h.addA _ _ _ x.lt y.lt z.lt)
 addZ x:=El.eq (h.addZ _ x.lt)
 addN x:=El.eq (h.addN _ x.lt)
 mulC x y:=El.eq (h.mulC _ _ x.lt y.lt)
 mulA x y z:=El.eq (h.mulA _ _ _ x.lt y.lt z.lt)
 mulU x:=El.eq (h.mulU _ x.lt)
 dist x y z:=El.eq (h.dist _ _ _ x.lt y.lt z.lt)
 inv x hx:=by
  have b:x.n≠0:=fun e=>hx (El.eq e)
  exact⟨⟨O.inv x.n,h.invL _ x.lt b⟩,El.eq (h.inv _ x.lt b)⟩
 ne e:=by
  have:(1:Nat)=0:=congrArg El.n e
  omega
def El.of(h:Fld q O)(x:Nat):El q O h:=if hx:x<q then⟨x,hx⟩ else 0
theorem El.of_n{x:Nat}(b:x<q):(El.of h x).n=x:=by unfold El.of;rw[dif_pos b]
theorem El.of_zero:El.of h 0=0:=El.eq (El.of_n (by have:=h.q1;omega))
theorem El.of_one:El.of h 1=1:=El.eq (El.of_n h.q1)
theorem El.of_add{x y:Nat}(b:x<q)(c:y<q):El.of h (O.add x y)=El.of h x+El.of h y:=by refine El.eq ?_;rw[El.of_n (h.addL _ _ b c)];show _=O.add (El.of h x).n (El.of h y).n;rw[El.of_n b,El.of_n c]
theorem El.of_mul{x y:Nat}(b:x<q)(c:y<q):El.of h (O.mul x y)=El.of h x*El.of h y:=by refine El.eq ?_;rw[El.of_n (h.mulL _ _ b c)];show _=O.mul (El.of h x).n (El.of h y).n;rw[El.of_n b,El.of_n c]
theorem El.of_neg{x:Nat}(b:x<q):El.of h (O.neg x)=-El.of h x:=by refine El.eq ?_;rw[El.of_n (h.negL _ b)];show _=O.neg (El.of h x).n;rw[El.of_n b]
theorem El.of_ne{x:Nat}(c:x<q)(b:x≠0):El.of h x≠0:=fun e=>b (by
 have:=congrArg El.n e
 rwa [El.of_n c] at this)
theorem El.of_inj{x y:Nat}(b:x<q)(c:y<q)(e:El.of h x=El.of h y):x=y:=by have:=congrArg El.n e;rwa [El.of_n b,El.of_n c] at this
theorem Fld.self(h:Fld q O):OpsEq q O O where
 add x y hx hy:=⟨rfl,h.addL x y hx hy⟩
 mul x y hx hy:=⟨rfl,h.mulL x y hx hy⟩
 neg x hx:=⟨rfl,h.negL x hx⟩
 inv x hx h0:=⟨rfl,h.invL x hx h0⟩
def wd(h:Fld q O)(w:LN)(j:Nat):El q O h:=El.of h (w.getD j 0)
theorem getD_at{l:LN}{j:Nat}(b:j<l.length):l.getD j 0=l[j]:=by simp[List.getD,b]
theorem getD_ok{l:LN}(h:∀x∈l,x<q)(c:0<q)(j:Nat):l.getD j 0<q:=by
 by_cases b:j<l.length
 . rw[getD_at b];exact h _ (List.getElem_mem b)
 . rw[qaZ U0];exact c
theorem qeH(n j:Nat):wd h (List.replicate n 0) j=0:=by
 unfold wd;have:(List.replicate n 0).getD j 0=0:=by simp[List.getD,List.getElem?_replicate];split<;>rfl
 rw[this,El.of_zero]
theorem wd_addRow{v u:LN}{a:Nat}(m:a<q)(o:∀ x∈v,x<q)(n:∀ x∈u,x<q)(p:v.length=u.length)(j:Nat):wd h (addRow O v a u) j=wd h v j+El.of h a*wd h u j:=by
 have H:=El.fd (h:=h);unfold wd;by_cases k:j<v.length
 . (have c : j < u.length:=by omega);(have e:(addRow O v a u).getD j 0=if u.getD j 0=0 then v.getD j 0 else O.add (v.getD j 0) (O.mul a (u.getD j 0)):=by rw[getD_at k,getD_at c,getD_at (by unfold addRow;rw[List.length_zipWith];omega)];unfold addRow;rw[List.getElem_zipWith]);have l:=getD_ok o (by have:=h.q1;omega) j;have d:=getD_ok n (by have:=h.q1;omega) j;rw[e];by_cases b:u.getD j 0=0
   . rw[if_pos b,b,El.of_zero,H.mulZ,H.zadd]
   . rw[if_neg b,El.of_add l (h.mulL _ _ m d),El.of_mul m d]
 . have f:v.getD j 0=0:=qaZ U0;have g:u.getD j 0=0:=qaZ U0;have i:(addRow O v a u).getD j 0=0:=qaZ (by unfold addRow;rw[List.length_zipWith];omega);rw[f,g,i,El.of_zero,H.mulZ,H.addZ]
theorem wd_scale{u:LN}{a:Nat}(f:a<q)(g:∀x∈u,x<q)(j:Nat):wd h (scaleRow O a u) j=El.of h a*wd h u j:=by
 have H:=El.fd (h:=h);unfold wd;by_cases b:j<u.length
 . (have e:(scaleRow O a u).getD j 0=O.mul a (u.getD j 0):=by rw[getD_at b,getD_at (by unfold scaleRow;rw[List.length_map];exact b)];unfold scaleRow;rw[List.getElem_map]);rw[e,El.of_mul f (getD_ok g (by have:=h.q1;omega) j)]
 . have c:u.getD j 0=0:=qaZ U0;have d:(scaleRow O a u).getD j 0=0:=qaZ (by unfold scaleRow;rw[List.length_map];omega);rw[c,d,El.of_zero,H.mulZ]
structure LinF (q:Nat) (O:Ops) (h:Fld q O) (Q:(Nat->El q O h)->Prop):Prop where
 zero:Q fun _=>0
 step:∀f g a,Q f->Q g->Q fun j=>f j+a*g j
theorem LinF.addRow{Q:(Nat->El q O h)->Prop}(L:LinF q O h Q){v u:LN}{a:Nat}(d:a<q)(i:∀x∈v,x<q)(g:∀x∈u,x<q)(f:v.length=u.length)(b:Q (wd h v))(c:Q (wd h u)):Q (wd h (addRow O v a u)):=by rw[show wd h (Pln.addRow O v a u)=fun j=>wd h v j+El.of h a*wd h u j from funext fun j=>wd_addRow d i g f j];exact L.step _ _ _ b c
theorem LinF.scale{Q:(Nat->El q O h)->Prop}(L:LinF q O h Q){u:LN}{a:Nat}(c:a<q)(d:∀x∈u,x<q)(b:Q (wd h u)):Q (wd h (scaleRow O a u)):=by rw[show wd h (scaleRow O a u)=fun j=>0+El.of h a*wd h u j from funext fun j=>by rw[wd_scale c d,El.fd.addZ]];exact L.step _ _ _ L.zero b
theorem mem_getD{rows:LL}{i:Nat}(b:i<rows.length):rows.getD i []∈rows:=by
 have:rows.getD i []=rows[i]:=by simp[List.getD,b]
 rw[this];exact List.getElem_mem b
section
variable {Q:(Nat->El q O h)->Prop} {n cols:Nat}
theorem LinF.clear(L:LinF q O h Q){rows:LL}(o:Grid q n cols rows){c t:Nat}(l:c<cols)(m:t<n)(p:∀ r∈rows,Q (wd h r)):∀ i,i<=n->∀ r∈clearGo O c t rows i,Q (wd h r)
 |0,_=>p
 | i + 1,hi => by
   have ih:=LinF.clear L o l m p i U0
   obtain⟨_,g⟩:=qdJ h.self o l m i U0
   unfold clearGo
   split
   . intro r b
     rcases List.mem_or_eq_of_mem_set b with b|rfl
     . exact ih r b
     . obtain⟨d,f⟩:=g.row (i:=i) U0
       obtain⟨j,k⟩:=g.row m
       exact L.addRow (h.negL _ (g.at_ U0 l)) f k (by rw[d,j]) (ih _ (mem_getD (by rw[g.1];omega))) (ih _ (mem_getD (by rw[g.1];omega)))
   . exact ih
theorem LinF.elim(L:LinF q O h Q){rows:LL}(B:Grid q n cols rows)(C:∀ r∈rows,Q (wd h r)):∀ c,c<=cols->∀ r∈(elGo O rows c).rows,Q (wd h r)
 |0,_=>C
 | c + 1,hc => by
   have ih:=LinF.elim L B C c U0
   obtain⟨_,g⟩:=qdT h.self B c U0
   unfold elGo
   generalize elGo O rows c=s at *
   unfold elStep
   by_cases p:s.piv.length<s.rows.length
   . simp only [if_pos p]
     have z:=qdF s.rows c (s.rows.length-s.piv.length) s.piv.length
     by_cases t:findRow s.rows c (s.rows.length-s.piv.length) s.piv.length=s.rows.length
     . simp only[if_pos t]
       exact ih
     . simp only [if_neg t]
       have d:=qcF s.rows c (s.rows.length-s.piv.length) s.piv.length U0
       generalize findRow s.rows c (s.rows.length-s.piv.length) s.piv.length=k at *
       have l:=g.1
       have f:=qdC g (i:=s.piv.length) (j:=k) U0 U0
       have o:at2 (swapRows s.rows s.piv.length k) s.piv.length c≠0:=by
        unfold at2 at d ⊢
        rw[qfT U0 U0]
        exact d
       have m:∀ r∈swapRows s.rows s.piv.length k,Q (wd h r):=by
        intro r b
        unfold swapRows at b
        rcases List.mem_or_eq_of_mem_set b with b|rfl
        . rcases List.mem_or_eq_of_mem_set b with b|rfl
          . exact ih r b
          . exact ih _ (mem_getD U0)
        . exact ih _ (mem_getD U0)
       generalize swapRows s.rows s.piv.length k=y at *
       obtain⟨_,u⟩:=qfW h.self f (i:=s.piv.length) U0 U0 o
       have v:∀ r∈normRow O y s.piv.length c,Q (wd h r):=by
        unfold normRow
        split
        . exact m
        . intro r b
          rcases List.mem_or_eq_of_mem_set b with b|rfl
          . exact m r b
          . obtain⟨A,x⟩:=f.row (i:=s.piv.length) U0
            exact L.scale (h.invL _ (f.at_ U0 U0) o) x (m _ (mem_getD (by rw[f.1];omega)))
       rw[l]
       exact LinF.clear L u U0 U0 v n zn
   . simp only[if_neg p]
     exact ih
theorem LinF.canon(L:LinF q O h Q){rows:LL}(c:Grid q n cols rows)(d:∀r∈rows,Q (wd h r)):∀r∈canonM O rows cols,Q (wd h r):=by intro r b;unfold canonM at b;exact L.elim c d cols zn r (List.mem_of_mem_take b)
theorem LinF.comb(L:LinF q O h Q){rows:LL}{n:Nat}(m:∀ r∈rows,Dv.Ok q n r/\Q (wd h r)):∀ (msg out:LN),(∀ x∈msg,x<q)->Dv.Ok q n out->Q (wd h out)->Q (wd h (Dv.combO O out msg rows))/\Dv.Ok q n (Dv.combO O out msg rows):=by
 induction rows with
 |nil=>intro msg out _ b c;cases msg<;>exact⟨c,b⟩
 |cons r rs ih=>
  intro msg out f b c;cases msg with
  |nil=>exact⟨c,b⟩
  |cons x xs=>
   unfold Dv.combO;obtain⟨⟨j,k⟩,l⟩:=m r List.mem_cons_self;have d:=ih (fun y hy=>m y (List.mem_cons_of_mem _ hy)) xs;have i:=f x List.mem_cons_self;by_cases g:x=0
   . rw[if_pos g];exact d out (fun y hy=>f y (List.mem_cons_of_mem _ hy)) b c
   . rw[if_neg g];exact d _ (fun y hy=>f y (List.mem_cons_of_mem _ hy)) ⟨by unfold Pln.addRow;rw[List.length_zipWith,b.1,j,Nat.min_self],(qdB h.self i b.2 k).2⟩ (L.addRow i b.2 k (by rw[b.1,j]) c l)
end
def UnitC(r:Nat)(rows:LL)(piv:LN):Prop:=∀i,i<rows.length->∀k,k<r->at2 rows i (piv.getD k 0)=if i=k then 1 else 0
theorem qcJ{rows:LL}(i c:Nat):El.of h (at2 rows i c)=wd h (rows.getD i []) c:=rfl
theorem at2_set{rows:LL}{i:Nat}(b:i<rows.length)(r:LN)(k c:Nat):at2 (rows.set i r) k c=if k=i then r.getD c 0 else at2 rows k c:=by
 unfold at2;by_cases e:k=i
 . subst e;rw[if_pos rfl];simp[List.getD,b]
 . rw[if_neg e];simp only[List.getD];rw[List.getElem?_set_ne (fun e2=>e e2.symm)]
theorem addRow_at{v u:LN}{a:Nat}{j:Nat}(b:j<v.length)(c:v.length=u.length):(addRow O v a u).getD j 0=if u.getD j 0=0 then v.getD j 0 else O.add (v.getD j 0) (O.mul a (u.getD j 0)):=by rw[getD_at b,getD_at (show j<u.length by omega),getD_at (by unfold addRow;rw[List.length_zipWith];omega)];unfold addRow;rw[List.getElem_zipWith]
theorem clear_at(h:Fld q O){n cols:Nat}{rows:LL}(C:Grid q n cols rows){c t:Nat}(z:c<cols)(A:t<n)(B:at2 rows t c=1):∀ i,i<=n ->
 (∀k,k<n->∀j,j<cols->at2 rows t j=0->at2 (clearGo O c t rows i) k j=at2 rows k j)/\(∀j,at2 (clearGo O c t rows i) t j=at2 rows t j)/\(∀k,k<i->k≠t->at2 (clearGo O c t rows i) k c=0)/\(∀k,i<=k->∀j,at2 (clearGo O c t rows i) k j=at2 rows k j)
 |0,_=>⟨fun _ _ _ _ _=>rfl,fun _=>rfl,fun k hk=>U0,fun _ _ _=>rfl⟩
 | i + 1,hi => by
   have hq:=h.q1
   obtain⟨o,f,r,s⟩:=clear_at h C z A B i U0
   obtain⟨_,g⟩:=qdJ h.self C z A i U0
   unfold clearGo
   split
   . rename_i hne
     obtain⟨l,p⟩:=hne
     generalize clearGo O c t rows i=R at *
     have b:i<R.length:=by rw[g.1];omega
     obtain⟨u,v⟩:=g.row (i:=i) U0
     obtain⟨x,y⟩:=g.row A
     have d:∀j,j<cols->(addRow O (R.getD i []) (O.neg (at2 R i c)) (R.getD t [])).getD j 0=if at2 R t j=0 then at2 R i j else O.add (at2 R i j) (O.mul (O.neg (at2 R i c)) (at2 R t j)):=fun j hj=>addRow_at U0 U0
     refine⟨fun k hk j hj h0=>?_,fun j=>?_,fun k hk hkt=>?_,fun k hk j=>?_⟩
     . rw [at2_set b]
       split
       . rename_i e
         subst e
         rw[d j hj,if_pos (by rw[f j];exact h0)]
         exact o k hk j hj h0
       . exact o k hk j hj h0
     . rw[at2_set b,if_neg (fun e=>l e.symm)]
       exact f j
     . rw [at2_set b]
       split
       . rename_i e
         subst e
         rw[d c z,f c,B,if_neg U0]
         have m:=g.at_ (i:=k) (c:=c) U0 z
         rw[h.mulC _ _ (h.negL _ m) h.q1,h.mulU _ (h.negL _ m),h.addN _ m]
       . exact r k U0 hkt
     . rw[at2_set b,if_neg U0]
       exact s k U0 j
   . rename_i hne
     refine⟨o,f,fun k hk hkt=>?_,fun k hk j=>s k U0 j⟩
     by_cases e:k=i
     . subst e
       refine Classical.byContradiction fun p=>hne ⟨hkt,p⟩
     . exact r k U0 hkt
theorem unit_elim(h:Fld q O){n cols:Nat}{rows:LL}(hG:Grid q n cols rows):∀ c,c<=cols->UnitC (elGo O rows c).piv.length (elGo O rows c).rows (elGo O rows c).piv
 |0,_=>fun i _ k hk=>by simp[elGo] at hk
 | c + 1,hc => by
   have ih:=unit_elim h hG c U0
   obtain⟨_,g⟩:=qdT h.self hG c U0
   have C:=elGo_piv_lt O rows c
   have Z:=h.q1
   unfold elGo
   generalize elGo O rows c=s at *
   unfold elStep
   by_cases H:s.piv.length<s.rows.length
   . simp only [if_pos H]
     have X:=qdF s.rows c (s.rows.length-s.piv.length) s.piv.length
     by_cases I:findRow s.rows c (s.rows.length-s.piv.length) s.piv.length=s.rows.length
     . simp only[if_pos I]
       exact ih
     . simp only [if_neg I]
       have y:=qcF s.rows c (s.rows.length-s.piv.length) s.piv.length U0
       generalize findRow s.rows c (s.rows.length-s.piv.length) s.piv.length=k at *
       have B:=g.1
       have A:∀a,a<s.piv.length->s.piv.getD a 0<cols:=fun a f=>by
        have W:=C (s.piv.getD a 0) (by rw[getD_at f];exact List.getElem_mem f)
        omega
       have u:=qdC g (i:=s.piv.length) (j:=k) U0 U0
       have r:at2 (swapRows s.rows s.piv.length k) s.piv.length c≠0:=by
        unfold at2 at y ⊢
        rw[qfT U0 U0]
        exact y
       have V:UnitC s.piv.length (swapRows s.rows s.piv.length k) s.piv:=by
        intro i m a f
        have l:i<s.rows.length:=by unfold swapRows at m;simpa using m
        have L:=ih k U0 a f
        have M:=ih s.piv.length U0 a f
        rw[if_neg U0] at L M
        unfold swapRows
        rw[at2_set so,at2_set U0]
        by_cases D:i=k
        . rw[if_pos D,if_neg U0]
          exact M
        . rw [if_neg D]
          by_cases E:i=s.piv.length
          . rw[if_pos E,if_neg U0]
            exact L
          . rw[if_neg E]
            exact ih i l a f
       have S:(swapRows s.rows s.piv.length k).length=n:=by rw[u.1]
       generalize swapRows s.rows s.piv.length k=d at *
       obtain⟨_,v⟩:=qfW h.self u (i:=s.piv.length) U0 U0 r
       have o:∀ i,i<n->∀ j,j<cols->at2 (normRow O d s.piv.length c) i j=if i=s.piv.length then (if at2 d s.piv.length c=1 then at2 d i j else O.mul (O.inv (at2 d s.piv.length c)) (at2 d i j)) else at2 d i j:=by
        intro i m j R
        unfold normRow
        by_cases e:at2 d s.piv.length c=1
        . rw[if_pos e]
          by_cases b:i=s.piv.length
          . rw[if_pos b,if_pos e]
          . rw[if_neg b]
        . rw [if_neg e,at2_set U0]
          by_cases b:i=s.piv.length
          . rw[if_pos b,if_pos b,if_neg e]
            obtain⟨U,_⟩:=u.row (i:=s.piv.length) U0
            rw[getD_at (by unfold scaleRow;rw[List.length_map,U];exact R)]
            unfold scaleRow
            rw[List.getElem_map,<- getD_at]
            rw[b]
            rfl
          . rw[if_neg b,if_neg b]
       have J:at2 (normRow O d s.piv.length c) s.piv.length c=1:=by
        rw[o _ U0 c U0,if_pos rfl]
        by_cases e:at2 d s.piv.length c=1
        . rw[if_pos e]
          exact e
        . rw[if_neg e]
          have p:=u.at_ (i:=s.piv.length) (c:=c) U0 U0
          rw[h.mulC _ _ (h.invL _ p r) p,h.inv _ p r]
       have K:UnitC s.piv.length (normRow O d s.piv.length c) s.piv:=by
        intro i m a f
        rw[v.1] at m
        have z:=V i U0 a f
        rw[o i m _ (A a f)]
        by_cases e:i=s.piv.length
        . have x : ¬ i = a := by omega
          rw[if_neg x] at z
          rw[if_pos e,if_neg x]
          by_cases b:at2 d s.piv.length c=1
          . rw[if_pos b]
            exact z
          . rw[if_neg b,z]
            have p:=u.at_ (i:=s.piv.length) (c:=c) U0 U0
            rw[h.mulC _ _ (h.invL _ p r) U0,h.mulZ _ (h.invL _ p r)]
        . rw[if_neg e]
          exact z
       generalize normRow O d s.piv.length c=T at *
       obtain⟨c1,c2,N,_⟩:=clear_at h v (t:=s.piv.length) (by omega:c<cols) U0 J n zn
       obtain⟨_,P⟩:=qdJ h.self v (c:=c) (t:=s.piv.length) U0 U0 n zn
       rw[B]
       intro i m a f
       show at2 (clearGo O c s.piv.length T n) i ((s.piv++[c]).getD a 0)=_
       have l:i<n:=by rw[<- P.1];exact m
       have Q:a<s.piv.length+1:=by simpa using f
       by_cases e:a=s.piv.length
       . rw [show (s.piv ++ [c]).getD a 0 = c by rw [e];simp [List.getD]]
         by_cases b:i=a
         . rw[if_pos b,b,e,c2 c,J]
         . rw[if_neg b]
           exact N i l U0
       . rw[show(s.piv ++ [c]).getD a 0 = s.piv.getD a 0 by simp only[List.getD];rw[List.getElem?_append_left U0]]
         have z:=K s.piv.length (by rw[v.1];omega) a U0
         rw[if_neg U0] at z
         rw[c1 i l _ (A a U0) z]
         exact K i (by rw[v.1];omega) a U0
   . simp only[if_neg H]
     exact ih
theorem unit_canon(h:Fld q O){n cols:Nat}{rows:LL}(b:Grid q n cols rows){i k:Nat}(c:i<(elGo O rows cols).piv.length)(d:k<(elGo O rows cols).piv.length):at2 (canonM O rows cols) i ((elGo O rows cols).piv.getD k 0)=if i=k then 1 else 0:=by unfold at2;rw[qfB O rows cols i c];exact unit_elim h b cols zn i (by have:=(qeN (O:=O) rows cols).2;rw[qfD];omega) k d
end
end Al
end Go.Proofs.YtflejelbdlelpaaGreat
namespace Go.Proofs.YtflejelbdlelpaaGreat
open Go.RowKit Pln Go.Proofs.Tryz
theorem mem_nz{x:Nat}{l:LN}:((x:Int)∈nz l) ↔ x∈l:=by
 unfold nz;constructor
 . intro h;obtain⟨y,b,e⟩:=List.mem_map.1 h;have:y=x:=U0;rwa [<- this]
 . intro h;exact List.mem_map.2 ⟨x,h,rfl⟩
theorem kernel_c(p m:Int)(mod:LI)(Am:OA)(cm:Nat)(cols:Nat)(rows:LL)(A:OA)(c:Nat)(w:Wo)(hM:zI w Am mod)(hl:mod.length<=9223372036854775807)(hA:zR w A (nzs rows))(h1:1<=cols)(cr:errC p m mod cols (nzs rows)=0):
 zC 147 #[C4 p m Am mod.length cm,Cp cols A rows.length c] w (MatPost w cols (kerM (opsT p.toNat m.toNat (lOf p m mod)) rows cols)):=by
 obtain⟨al,hz,q,_,dg,hn⟩:=errC_grid cr;rw[Int.toNat_natCast] at q;have hF:=field_ft al;have E:=qdA hF;have cy:1<p.toNat^m.toNat:=by have h1:=hF.small.p1;have h2:=hF.small.m1;exact Nat.one_lt_pow U0 U0
 obtain⟨i0,L,bq,bt,bu⟩:=qaF infoInt;obtain⟨c7,bg,X,Z,aa⟩:=qaF infoInts;have HI:=zH L;have cj:=zH bq;have cl:=zH bt;have b2:=zH bg;have bb:=zH X;have bc:=zH Z;have bd:=zH aa;have bv:=zH (show i0.bytes*cols<=281474976710656 by rw[bu];omega);have d:=zH (show cols<=maxLen by unfold maxLen;omega);have HX:=zH ((box3 w p m Am mod.length cm cols A rows.length c 60 (Cq)).keep (zV.alloc zn (C9 cols A rows.length c)));have az:zK (((((w.alloc (C2 p m Am mod.length cm)).alloc (C9 cols A rows.length c)).alloc (Cs)).alloc (C9 cols A rows.length c)).heap[w.heap.size+1+1+1]?=some (C9 cols A rows.length c)):=alloc_at U2 _;have HM:=zH hM;have HA:=zH hA;have ac:=zH hF;have b1:=zH q;have av:=zH (canon_grid E q);have cd:zK (∀i,i<(elGo (opsT p.toNat m.toNat (lOf p m mod)) rows cols).piv.length->(elGo (opsT p.toNat m.toNat (lOf p m mod)) rows cols).piv.getD i 0<cols):=fun i L=>by
  have:∀(l:LN)(hj:i<l.length),l.getD i 0=l[i]:=fun l hj=>by simp[List.getD,hj]
  rw[this _ L];exact elGo_piv_lt _ _ _ _ (List.getElem_mem _)
 have b6:=zH (kerRows_grid (piv:=(elGo (opsT p.toNat m.toNat (lOf p m mod)) rows cols).piv) E cy (canon_grid E q) rfl);have a3:=zH (kerRows_len (opsT p.toNat m.toNat (lOf p m mod)) (canonM (opsT p.toNat m.toNat (lOf p m mod)) rows cols) (elGo (opsT p.toNat m.toNat (lOf p m mod)) rows cols).piv cols);have b3:=zH (kerRows_at (opsT p.toNat m.toNat (lOf p m mod)) (canonM (opsT p.toNat m.toNat (lOf p m mod)) rows cols) (elGo (opsT p.toNat m.toNat (lOf p m mod)) rows cols).piv cols);have y:=zH (canonM_len (opsT p.toNat m.toNat (lOf p m mod)) rows cols);have b7:zK (kerM (opsT p.toNat m.toNat (lOf p m mod)) rows cols=canonM (opsT p.toNat m.toNat (lOf p m mod)) (kerRows (opsT p.toNat m.toNat (lOf p m mod)) (canonM (opsT p.toNat m.toNat (lOf p m mod)) rows cols) (elGo (opsT p.toNat m.toNat (lOf p m mod)) rows cols).piv cols) cols):=rfl;have a8:=zH (qeN (O:=opsT p.toNat m.toNat (lOf p m mod)) rows cols);have b0:zK ((freeC (elGo (opsT p.toNat m.toNat (lOf p m mod)) rows cols).piv cols).length<=cols):=freeC_le _ _;clear hM hA L bq bt bu bg X Z aa hF E cr;generalize kerM (opsT p.toNat m.toNat (lOf p m mod)) rows cols=s at *;go_enter func147,ntmps147;go_wp2_with fail;generalize (((w.alloc (C2 p m Am mod.length cm)).alloc (C9 cols A rows.length c)).alloc (Cs)).alloc (C9 cols A rows.length c)=W0 at *;have bj:(nzs rows).length<=9223372036854775807:=by rw[nzs_len];omega
 have HC:=zH (open_c p m mod Am cm cols (nzs rows) A c (w.heap.size+1+1+1) 1 W0 ((HM.o.keep HX.o.below).more HX.o.below.size) hl ((HA.o.keep HX.o.below).more HX.o.below.size) bj (by rw[nzs_len];exact az.o));go_fit HC.o;rintro e w1 ⟨hb1,hcase⟩;have g:=zH (HX.o.keep hb1);have ao:=zH ((HA.o.keep g.o.below).more g.o.below.size);clear HX HM HA HC az hb1;clear W0;rcases hcase with⟨S,_⟩|⟨_,c6,_⟩|⟨_,_,gb,rfl,K⟩
 . rw[al] at S;cases S
 . exact absurd hz c6
 clear al hz;have HG:=zH K;have aq:=zH (canon2_c gb w1.heap.size p.toNat m.toNat cols (mdOf m mod) (lOf p m mod) rows A c w1 ac.o K zn ao.o b1.o h1 U0 hn);have dm:=g.o.size;have dn:w.heap.size+1<w1.heap.size:=U0;have a0:w1.cell? (zA (w.heap.size+1) 0)=some (Y (cols:Int)):=cell_of_row _ _ 0 _ _ _ g.o.k1;have a1:w1.cell? (zA (w.heap.size+1) 1)=some (zL A rows.length c):=cell_of_row _ _ 1 _ _ _ g.o.k1;clear K ao;have a6:zK (∀(B:Nat)(W:Wo)(x:Nat),GFAt W B gb p.toNat m.toNat (lOf p m mod) (logL (lOf p m mod) (p.toNat^m.toNat))->x<p.toNat^m.toNat->zC 127 (Cj gb x) W (Quiet (Y (((opsT p.toNat m.toNat (lOf p m mod)).neg x:Nat):Int)) W)):=fun B W x hG hx=>neg_c x gb p.toNat m.toNat B _ _ W ac.o.small hG hx
 have ar:zK (∀(W:Wo)(b:LL)(J:OA)(co:Nat),GFAt W W.heap.size gb p.toNat m.toNat (lOf p m mod) (logL (lOf p m mod) (p.toNat^m.toNat))->zR W J (nzs b)->Grid (p.toNat^m.toNat) b.length cols b->b.length<=256->zC 185 #[zP gb,zL J b.length co,Y (cols:Int)] W fun e w'=>(∃(R:Nat)(VA:OA)(ck:Nat),e=.returned (.tuple #[zS R (canonM (opsT p.toNat m.toNat (lOf p m mod)) b cols).length (canonM (opsT p.toNat m.toNat (lOf p m mod)) b cols).length,zL VA (canonM (opsT p.toNat m.toNat (lOf p m mod)) b cols).length ck])/\RowsUp w' W.heap.size (zO R) (nzs (canonM (opsT p.toNat m.toNat (lOf p m mod)) b cols)))/\zB W w'):=fun W b J co hG hA q hn=>
  (canon2_c gb W.heap.size p.toNat m.toNat cols (mdOf m mod) (lOf p m mod) b J co W ac.o hG zn hA q h1 U0 hn).mono fun e w' ⟨⟨R,VA,ck,h1,h2,_⟩,h3⟩=>⟨⟨R,VA,ck,h1,h2⟩,h3⟩
 generalize opsT p.toNat m.toNat (lOf p m mod)=O at *;generalize (elGo O rows cols).piv=piv at *;generalize canonM O rows cols=I at *;generalize bi:kerRows O I piv cols=b at *;have da:=zH bi;clear bi;go_wp2_with fail;go_fit aq.o;rintro e w2 ⟨⟨R,VA,ck,rfl,hru,N⟩,hb2⟩;have af:=zH (g.o.keep hb2);have ce:=zH hru.rowsAt;have a9:=zH N.ints;have aw:=zH ((HG.o.keep hb2).more hb2.size);have dp:=hb2.size;have bm:w.heap.size+1<w2.heap.size:=U0;clear g aq hru N HG a0 a1;have a0:w2.cell? (zA (w.heap.size+1) 0)=some (Y (cols:Int)):=cell_of_row _ _ 0 _ _ _ af.o.k1;have a4:zK (RelKer w2 piv cols b (zL none 0 0) (Y ((0:Nat):Int)) w2):=⟨0,[],U0,rfl,⟨rfl,Nat.zero_le _,World.ownsRow_nil _ _ _ _,fun i L=>by simp[freeC] at L,fun i L=>by simp[freeC] at L⟩,Below.refl _ _⟩;clear hb2;go_wp2;go_loopw [10,37] (fun v10 v37 wr=>RelKer w2 piv cols b v10 v37 wr) (fun _ v37 _=>cols-(intOf v37).toNat);case atStart=>exact a4.o
 case round =>
  obtain⟨t,bs,ht,rfl,ak,hb⟩:=hrel;obtain⟨J,co,rfl,_⟩:=own_slice' ak.out;have C:=zH ak;have h:=zH hb;have r:=hb.size;clear ak hb a4;by_cases D:t<cols
  . (have z : zK (zC 71 #[zL VA I.length ck,Y (t : Int)] wr (Quiet (.bool (decide (t ∈ piv))) wr)) := by have:=contains_c (nz piv) t VA ck wr ((a9.o.keep h.o).more r) (by rw [qaA];have:=a8.o.2;omega);rw [qaA,<- y.o,show decide ((t:Int)∈nz piv)=decide (t∈piv) by simp [mem_nz]] at this;exact this);have c0:=(h.o.cell (p:=(zA (w.heap.size+1) 0)) bm).trans a0;by_cases U:t∈piv
    . rw[decide_eq_true U] at z;(have ab:zK (freeC piv (t+1)=freeC piv t):=by show _=_;rw[freeC_succ,if_pos U,List.append_nil]);clear U;go_wp2_with fail;go_fit z.o;rintro e w3 ⟨rfl,n,rfl⟩;have d:zK (zB wr (wr.drewN n)):=qaB zV n;generalize wr.drewN n=f at *;go_wp2;go_roundw;case rel=>exact⟨t+1,bs,U0,U3,by rw[ab.o];exact C.o.grow d.o,h.o.trans (d.o.mono r)⟩
      case measure=>simp[intOf];omega
    . rw [decide_eq_false U] at z;(have ab:zK ((freeC piv (t+1)).length=(freeC piv t).length+1):=by show _=_;rw [freeC_succ,if_neg U];simp);have a2:=zH (b3.o t D U);(have ct:(freeC piv t).length<b.length:=by rw [a3.o];exact (freeC_at piv cols t D U).1);clear U;go_wp2_with fail;go_fit z.o;rintro e w3 ⟨rfl,n,rfl⟩;have d:zK (zB wr (wr.drewN n)):=qaB zV n;have ad:=zH (C.o.grow d.o);have ap:=zH (h.o.trans (d.o.mono r));have c4:(wr.drewN n).cell? (zA (w.heap.size+1) 0)=some (Y (cols:Int)):=c0;clear d C h z c0;generalize wr.drewN n=f at *;clear r;clear wr;have bn:=ap.o.size;go_upto_region 11 with (refine wpList_make_full f rfl (.tmp 44) (.tmp 44) 22 rfl f.heap.size 3 i0 (Y 0) 1 underlying22 HI.o cj.o cl.o .i64 .i64 cols cols cols rfl rfl rfl rfl bv.o d.o zn ?_;intro w5 T Q);(have ae:zK (Row w5 f.heap.size f.heap.size cols (nz (List.replicate cols 0))):=by have:=Row.of_make T;exact this);(have bw:=zH<|qaL Q);have r0:=ae.o.cell (j:=t) (by rw [qaA,List.length_replicate];exact D);have rf:=ae.o.frozen t;(have ax:zK (RelKi f O I piv cols t (Y ((0:Nat):Int)) (w5.setCell (zA f.heap.size t) (Y 1))):=by refine ⟨0,U0,rfl,?_,bw.o.setCell (p:=(zA f.heap.size t)) zn _⟩;have:=ae.o.set t 1;rw [show (1:Int)=((1:Nat):Int) from rfl,qbC] at this;exact this);(have dj:(I.length:Int)=(piv.length:Int):=by rw [y.o]);(have di:piv.length<=256:=by have:=a8.o.2;omega);have t0:(0:Int)<=(t:Int):=U0;have t1:(t:Int)<(cols:Int):=U0;clear T Q;go_wp2_with fail;generalize w5.setCell (zA f.heap.size t) (Y 1)=W6 at *;clear r0 rf;go_loopw [51] (fun v51 wr=>RelKi f O I piv cols t v51 wr) (fun v51 _=>piv.length-(intOf v51).toNat);case atStart=>exact ax.o
      case round =>
       obtain⟨i,L,rfl,V,hb⟩:=hrel;have HR:=zH V;have h:=zH hb;have r:=hb.size;clear V hb ax;have v:=zH (ap.o.trans (h.o.mono bn));by_cases M:i<piv.length
       . obtain⟨bp,op,rfl,db,cn⟩:=(a9.o.keep v.o).at_ (k:=i) (by rw[qaA];exact M);rw[qaC] at cn;obtain⟨br,ds,Ai,ci,e,dd,ai,an⟩:=(ce.o.keep v.o).at_ (i:=i) (by rw[nzs_len,y.o];exact M);injection e with e;injection e with e1 e2 _;subst e1 e2;rw[Nat.zero_add] at ai;rw[nzs_getD] at ai an;have K:=av.o.row (i:=i) M;rw[qaA,K.1] at ai;obtain⟨bx,ox,rfl,de,cq⟩:=an.at_ (k:=t) (by rw[qaA,K.1];exact D);rw[qaC] at cq;(have bo:(I.getD i []).getD t 0<p.toNat^m.toNat:=by(have:∀(l:LN)(hj:t<l.length),l.getD t 0=l[t]:=fun l hj=>by simp[List.getD,hj]);rw[this _ (by rw[K.1];exact D)];exact K.2 _ (List.getElem_mem _));have N:=cd.o i M;have b8:zK (kerK O I piv cols t (i+1)=(kerK O I piv cols t i).set (piv.getD i 0) (O.neg ((I.getD i []).getD t 0))):=rfl;have b9:=zH (a6.o w2.heap.size wr _ (aw.o.keep v.o) bo);have f0:=HR.o.frozen (piv.getD i 0);have y0:=HR.o.cell (j:=piv.getD i 0) (by rw[qaA,kerK_len];exact N);have dq:(0:Int)<=(i:Int):=U0;have dr:(i:Int)<(piv.length:Int):=U0;have p0:(0:Int)<=((piv.getD i 0:Nat):Int):=U0;have p1:((piv.getD i 0:Nat):Int)<(cols:Int):=U0;clear an K bo;generalize (I.getD i []).getD t 0=x at *;generalize piv.getD i 0=pv at *;go_wp2_with fail;go_fit b9.o;rintro e w7 ⟨rfl,n,rfl⟩;go_wp2;go_roundw;case rel=>refine⟨i+1,U0,U3,?_,(qaB h.o n).setCell (p:=(zA f.heap.size pv)) zn _⟩;rw[b8.o,<- qbC];exact Row.set (w:=wr.drewN n) HR.o pv _
         case measure=>simp[intOf];omega
       . (obtain rfl : i = piv.length:=by omega);(have cf:zK (Row wr f.heap.size f.heap.size cols (nz (b.getD (freeC piv t).length []))):=by show Row _ _ _ _ _;rw[a2.o];exact HR.o);(have cx:(b.getD (freeC piv t).length []).length=cols:=by rw[a2.o,kerK_len]);(have a7:zK ((wr.alloc (.cells #[zS f.heap.size cols cols] 22)).ownsRow w2.heap.size 22 1 (zL J (freeC piv t).length co) (freeC piv t).length ((List.range (freeC piv t).length).map (hdr b bs))):=by have cw:=(ad.o.grow h.o).out;exact World.ownsRow.alloc cw _);have dh:(freeC piv t).length<=t:=freeC_le _ _;have c9:=v.o.size;clear HR;go_wp2_with (at_builtin;refine wpList_append_own_at _ rfl (.tmp 69) (.tmp 71) 25 rfl w2.heap.size 22 c7 _ 1 24 underlying25 b2.o bb.o bc.o bd.o rfl dc (zL J (freeC piv t).length co) (freeC piv t).length ((List.range (freeC piv t).length).map (hdr b bs)) rfl a7.o (zA wr.heap.size 0) 1 1 [zS f.heap.size cols cols] rfl rfl ?c1 ?c2 ?c3 ?c4 ?c5 ?_);case c1=>exact World.news_of_block (cs:=#[zS f.heap.size cols cols]) (t:=22) (fr:=(0,0)) (heap_alloc_new wr _)
         case c2=>intro u hu;simp at hu;subst hu;rfl
         case c3=>unfold maxLen;omega
         case c4=>omega
         case c5=>simp;omega
         intro v' w7 H aj _ be;(have cg:=zH<|ad.o.step ct bn h.o cf.o (by rw[cx];exact H) aj (by simpa using be));(have bz:=zH<|(v.o.alloc U0 _).grown aj so (fun j hj=>(ad.o.out.lt j hj).1));clear H aj be a7;go_wp2;go_roundw;case rel=>exact⟨t+1,_,U0,U3,by rw[ab.o];exact cg.o,bz.o⟩
         case measure=>simp[intOf];omega
  . (obtain rfl:t=cols:=by omega);have bh:=a3.o.symm;(have a5:zK (zR wr J (nzs b)):=by have bf:=C.o;rw[bh] at bf;exact bf.up.rowsAt);have au:=zH (ar.o wr b J co ((aw.o.keep h.o).more r) a5.o b6.o (by rw[<- bh];have:=b0.o;omega));rw[b7.o.symm] at au;have c0:=(h.o.cell (p:=(zA (w.heap.size+1) 0)) bm).trans a0;have ag:=zH (af.o.keep h.o);clear a5 C a0;go_wp2_with fail;go_fit au.o;rintro e w8 ⟨⟨R2,VA2,ck2,rfl,hru2⟩,hb8⟩;have ah:=zH (ag.o.keep hb8);have ay:=zH ah.o.k2;have ba:=zH hru2;have cz:w.heap.size+1+1<wr.heap.size:=ag.o.size;have c8:w8.cell? (zA (w.heap.size+1) 0)=some (Y (t:Int)):=cell_of_row _ _ 0 _ _ _ ah.o.k1;have HY:=zH (ah.o.set (Cl t R2 s.length s.length));clear hb8 hru2 c0 ag af;go_wp2_with (refine wpList_store_row rfl 60 (.tmp 4) (.tmp 85) rfl w8 (w.heap.size+1+1) 60 (Cq) (Cl t R2 s.length s.length) rfl rfl ay.o matSize rfl sc ?_);refine bodyPost_ret (results_row_one (P:=prog) rfl _ _ (w.heap.size+1+1) 60 (Cl t R2 s.length s.length) (0,0) _ _ rfl rfl HY.o.k2 underlying60 rfl matSize) rfl ?_;exact⟨⟨_,_,rfl,(ba.o.setRow cz _).lower U0⟩,HY.o.below⟩
end Go.Proofs.YtflejelbdlelpaaGreat
namespace Go.Proofs.YtflejelbdlelpaaGreat
open Go.RowKit Pln
structure BoxC (w:Wo) (f a r:List Value) (W:Wo):Prop where
 below:zB w W
 size:w.heap.size+2<W.heap.size
 k0:W.heap[w.heap.size]?=some (.cells f.toArray 24 (0,0))
 k1:W.heap[w.heap.size+1]?=some (.cells a.toArray 60 (0,0))
 k2:W.heap[w.heap.size+1+1]?=some (.cells r.toArray 27 (0,0))
section
variable {w:Wo} {f a r:List Value} {W W':Wo}
theorem BoxC.keep(h:BoxC w f a r W)(c:zB W W'):BoxC w f a r W':=by have b:=h.size;exact⟨h.below.trans (c.mono U0),Nat.lt_of_lt_of_le b c.size,(c.block _ U0).trans h.k0,(c.block _ U0).trans h.k1,(c.block _ U0).trans h.k2⟩
theorem BoxC.set(h:BoxC w f a r W)(b:List Value):BoxC w f a b (W.setRow (w.heap.size+1+1) b.toArray):=
 ⟨qaR h.below U0 _,by simpa using h.size,(setRow_other W _ _ _ U0).trans h.k0,(setRow_other W _ _ _ U0).trans h.k1,setRow_same W _ _ _ _ h.k2⟩
theorem boxC(w:Wo)(f a r:Array Value):BoxC w f.toList a.toList r.toList (((w.alloc (.cells f 24)).alloc (.cells a 60)).alloc (.cells r 27)):=by
 refine⟨((zV.alloc zn _).alloc U2 _).alloc so _,U2,?_,?_,?_⟩
 . exact(heap_alloc_old _ _ so).trans ((heap_alloc_old _ _ U2).trans (heap_alloc_new _ _))
 . exact(heap_alloc_old _ _ U2).trans (alloc_at U2 _)
 . exact alloc_at U2 _
end
def Num(w:Wo)(B:Nat)(v:Value)(l:LN):Prop:=w.ownsRow B 3 1 v l.length ((nz l).map (Value.int .i64))
section
variable {w w':Wo} {B:Nat} {v:Value} {l:LN}
theorem Num.nil(w:Wo)(B:Nat):Num w B (zL none 0 0) []:=World.ownsRow_nil _ _ _ _
theorem Num.grow(h:Num w B v l)(b:zB w w'):Num w' B v l:=
 World.ownsRow.kept h (row:=none) ⟨b.os,b.tape,b.output,b.size,fun j hj _=>b.block j hj⟩ (by cases v.ownBlock<;>simp)
theorem Num.slice(h:Num w B v l):∃VA ck,v=zL VA l.length ck:=own_slice h
theorem Num.step{c:Wo}{b:Value}{x:Nat}(h:c.ownsRow B 3 1 b (l.length+1) ((nz l).map (Value.int .i64)++[Y (x:Int)])):Num c B b (l++[x]):=by unfold Num;rw[List.length_append,nz,List.map_append,List.map_append];exact h
end
section
variable {P:Program} {S:Wo->Prop} {K:Act->Wo->Prop} {o:Oper} {r:List (Nat × Oper)} {a:Act} {w:Wo}
theorem qcA(j:o.guard=none)(f:TypeId)(x y:Operand)(l:o.op=.store f x y)(b:Nat)(t:TypeId)(c d:Array Value)(n:a.eval x=zP b)(p:a.eval y=.agg d)(i:w.heap[b]?=some (.cells c t (0,0)))(k:(P.info? f).map (·.size)=some d.size)(m:c.size=d.size)(g:d.all (·.oneCell')=true)(h:wpMixF P S K r (a.put o.dst undef) (w.setRow b d)):wpMixF P S K ((3,o):: r) a w:=
 mixf_store j (by
  unfold execOp
  simp only[l,n,p,Instr.storeAt,Instr.sureAddr,Sem.run_bind,Sem.run_pure,Result.andThen_ok,run_storeVar_row w b t f c d i k m g]) h
end
structure BoxK (w:Wo) (a r:List Value) (W:Wo):Prop where
 below:zB w W
 size:w.heap.size+1<W.heap.size
 k0:W.heap[w.heap.size]?=some (.cells a.toArray 27 (0,0))
 k1:W.heap[w.heap.size+1]?=some (.cells r.toArray 27 (0,0))
end Go.Proofs.YtflejelbdlelpaaGreat
