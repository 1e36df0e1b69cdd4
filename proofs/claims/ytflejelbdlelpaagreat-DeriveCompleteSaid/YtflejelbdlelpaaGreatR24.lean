/- Parts of the proof. -/
import Derived.Test.YtflejelbdlelpaaGreatR22
import Derived.Test.YtflejelbdlelpaaGreatR19
set_option maxRecDepth 100000
set_option maxHeartbeats 8000000
namespace Go.Proofs.YtflejelbdlelpaaGreat
open Go.RowKit Pln
structure GS (w:Wo) (b B g0 c0:Nat) (n:Int) (rows:LL) (k:Nat) (v:Value) (bs:List (Nat × Nat)) (row:LN) (W:Wo):Prop where
 below:zB w W
 lo:w.heap.size<=b/\w.heap.size<=g0/\b<B/\g0<B/\b≠g0/\B<=W.heap.size
 box:W.heap[b]?=some (.cells [Y n,v].toArray 60 (0,0))
 grid:LGrid W B v rows bs k
 run:Row W w.heap.size g0 c0 (nz row)
end Go.Proofs.YtflejelbdlelpaaGreat
namespace Go.Proofs.YtflejelbdlelpaaGreat
open Pln
namespace Al
section
variable {q:Nat} {O:Ops} {h:Fld q O}
theorem wd_set{v:LN}{p y j:Nat}(b:p<v.length):wd h (v.set p y) j=if j=p then El.of h y else wd h v j:=by
 unfold wd;by_cases e:j=p
 . subst e;rw[if_pos rfl];simp[List.getD,b]
 . rw[if_neg e];simp only[List.getD];rw[List.getElem?_set_ne (fun e2=>e e2.symm)]
theorem dot_set{n p y:Nat}{f:Nat->El q O h}{v:LN}(i:v.length=n)(g:p<n)(d:wd h v p=0):sm n (fun j=>f j*wd h (v.set p y) j)=sm n (fun j=>f j*wd h v j)+f p*El.of h y:=by
 have H:=El.fd (h:=h);have e:sm n (fun j=>f j*wd h (v.set p y) j)=sm n (fun j=>f j*wd h v j+(if j=p then f p*El.of h y else 0)):=by
  refine H.sm_congr fun j c=>?_;rw[wd_set U0];by_cases b:j=p
  . subst b;rw[if_pos rfl,if_pos rfl,d,H.mulZ,H.addZ]
  . rw[if_neg b,if_neg b,H.zadd]
 rw[e,H.sm_add];congr 1;rw[H.sm_one g]
 . rw[if_pos rfl]
 . intro j _ c;rw[if_neg c]
theorem kerK_at{rows:LL}{piv:LN}{cols c j:Nat}(f:j≠c):∀ t,(∀ k,k<t->piv.getD k 0≠j)->wd h (kerK O rows piv cols c t) j=0
 | 0,_ => by
   unfold kerK wd
   have:((List.replicate cols 0).set c 1).getD j 0=0:=by
    simp only[List.getD]
    rw[List.getElem?_set_ne (fun e=>f e.symm),List.getElem?_replicate]
    split<;>rfl
   rw[this,El.of_zero]
 | t + 1,hk => by
   have d:=kerK_at (rows:=rows) (piv:=piv) (cols:=cols) f t (fun k hk2=>hk k U0)
   have b:=hk t U0
   unfold kerK
   unfold wd at d ⊢
   have e:((kerK O rows piv cols c t).set (piv.getD t 0) (O.neg ((rows.getD t []).getD c 0))).getD j 0=(kerK O rows piv cols c t).getD j 0:=by
    simp only[List.getD] at b ⊢
    rw[List.getElem?_set_ne b]
   rw[e,d]
theorem ker_dot{m:LL}{piv:LN}{r cols c:Nat}(u:Grid q r cols m)(s:∀ i k,i<r->k<r->at2 m i (piv.getD k 0)=if i=k then 1 else 0)(p:c<cols)(n:∀ k,k<r->piv.getD k 0≠c)(o:∀ k,k<r->piv.getD k 0<cols){i:Nat}(v:i<r):
 ∀t,t<=r->sm cols (fun j=>wd h (m.getD i []) j*wd h (kerK O m piv cols c t) j)=wd h (m.getD i []) c+sm t (fun k=>wd h (m.getD i []) (piv.getD k 0)*-wd h (m.getD k []) c)
 | 0,_ => by
   have H:=El.fd (h:=h)
   rw[H.sm_one p]
   . have : wd h (kerK O m piv cols c 0) c = 1 := by
      unfold kerK wd
      have:((List.replicate cols 0).set c 1).getD c 0=1:=by simp[List.getD,p]
      rw[this,El.of_one]
     rw[this,H.umul]
     exact(H.zadd _).symm
   . intro j _ f
     rw[kerK_at f 0 (fun k hk=>U0),H.mulZ]
 | t + 1,ht => by
   have H:=El.fd (h:=h)
   have l:=ker_dot u s p n o v t U0
   have hd:∀k,k<t->piv.getD k 0≠piv.getD t 0:=fun k hk e=>by
    have b:=s k k U0 U0
    have d:=s k t U0 U0
    rw[if_pos rfl] at b
    rw[if_neg U0,<- e,b] at d
    omega
   have g:=u.at_ (i:=t) (c:=c) U0 p
   show sm cols (fun j=>wd h (m.getD i []) j*wd h ((kerK O m piv cols c t).set (piv.getD t 0) (O.neg ((m.getD t []).getD c 0))) j)=wd h (m.getD i []) c+(sm t (fun k=>wd h (m.getD i []) (piv.getD k 0)*-wd h (m.getD k []) c)+wd h (m.getD i []) (piv.getD t 0)*-wd h (m.getD t []) c)
   rw[dot_set (kerK_len _ _ _ _ _ _) (o t U0) (kerK_at (n t U0) t hd),l,H.addA]
   congr 2
   rw[El.of_neg (by exact g)]
   rfl
theorem ker_orth{n cols:Nat}{rows:LL}(z:Grid q n cols rows):∀u∈kerM O rows cols,∀g∈canonM O rows cols,sm cols (fun j=>wd h g j*wd h u j)=0:=by
 have H:=El.fd (h:=h);have E:=h.self;have m:=canon_grid E z;have v:=kerRows_grid (piv:=(elGo O rows cols).piv) E h.q1 m rfl;have L:LinF q O h fun f=>∀g∈canonM O rows cols,sm cols (fun j=>wd h g j*f j)=0:=by
  refine⟨fun g _=>H.sm_zero fun j _=>H.mulZ _,fun f g a hf hg u hu=>?_⟩;have e:sm cols (fun j=>wd h u j*(f j+a*g j))=sm cols (fun j=>wd h u j*f j+a*(wd h u j*g j)):=H.sm_congr fun j _=>by rw[H.dist,<- H.mulA,<- H.mulA,H.mulC a]
  rw[e,H.sm_lin,hf u hu,hg u hu,H.mulZ,H.addZ]
 unfold kerM;refine L.canon v fun u hu g hg=>?_;unfold kerRows at hu;obtain⟨c,y,rfl⟩:=List.mem_map.1 hu;have l:=List.mem_filter.1 y;have s:c<cols:=by simpa using l.1
 have t:c∉(elGo O rows cols).piv:=by have:=l.2;simpa using this
 obtain⟨i,r,rfl⟩:=List.mem_iff_getElem.1 hg;have b:i<(elGo O rows cols).piv.length:=by rw[<- canonM_len];exact r
 have e:(canonM O rows cols)[i]=(canonM O rows cols).getD i []:=by simp[List.getD,r]
 have p:∀k,k<(elGo O rows cols).piv.length->(elGo O rows cols).piv.getD k 0∈(elGo O rows cols).piv:=fun k d=>by rw[getD_at d];exact List.getElem_mem d
 rw[e,ker_dot m (fun i k r d=>unit_canon h z r d) s (fun k d e=>t (by rw[<- e];exact p k d)) (fun k d=>elGo_piv_lt O rows cols _ (p k d)) b _ zn];have o:sm (elGo O rows cols).piv.length (fun k=>wd h ((canonM O rows cols).getD i []) ((elGo O rows cols).piv.getD k 0)*-wd h ((canonM O rows cols).getD k []) c)=-wd h ((canonM O rows cols).getD i []) c:=by
  rw[H.sm_one b]
  . rw[<- qcJ,unit_canon h z b b,if_pos rfl,El.of_one,H.mulU]
  . intro k d x;rw[<- qcJ,unit_canon h z b d,if_neg (fun e=>x e.symm),El.of_zero,H.zmul]
 rw[o,H.addN]
theorem wt_take(w:LN):∀ k,k<=w.length->Dv.wt (w.take k)=((List.range k).filter fun j=>decide (w.getD j 0≠0)).length
 |0,_=>by simp[Dv.wt]
 | k + 1,hk => by
   rw[rwt_take U0,wt_take w k U0,List.range_succ,List.filter_append,List.length_append]
   congr 1
   by_cases hx:w.getD k 0=0
   . rw[if_pos hx,List.filter_cons_of_neg (by simpa using hx)]
     rfl
   . rw[if_neg hx,List.filter_cons_of_pos (by simpa using hx)]
     rfl
def supp(w:LN):LN:=(List.range w.length).filter fun j=>decide (w.getD j 0≠0)
theorem wt_supp(w:LN):Dv.wt w=(supp w).length:=by have:=wt_take w w.length zn;rwa [List.take_length] at this
theorem mem_supp{w:LN}{j:Nat}:j∈supp w ↔ j<w.length/\w.getD j 0≠0:=by unfold supp;rw[List.mem_filter];simp
theorem supp_nd(w:LN):(supp w).Nodup:=List.Pairwise.filter _ List.nodup_range
def fnz:LN->Nat
 |[]=>0
 |x :: r=>if x=0 then fnz r else x
def colOf(hs:LL)(j:Nat):LN:=hs.map fun r=>r.getD j 0
def normC(O:Ops)(col:LN):LN:=scaleRow O (O.inv (fnz col)) col
def ColsOk(O:Ops)(hs:LL)(n:Nat)(b:Bool):Prop:=(∀j,j<n->fnz (colOf hs j)≠0)/\(b=true->∀i j,i<j->j<n->normC O (colOf hs i)≠normC O (colOf hs j))
theorem fnz_zero:∀ l:LN,(∀ x∈l,x=0)->fnz l=0
 |[],_=>rfl
 |x :: r,h=>by
   unfold fnz
   rw[if_pos (h x List.mem_cons_self)]
   exact fnz_zero r fun y hy=>h y (List.mem_cons_of_mem _ hy)
theorem fnz_lt(b:0<q):∀ l:LN,(∀ x∈l,x<q)->fnz l<q
 |[],_=>b
 |x :: r,h=>by
   unfold fnz
   split
   . exact fnz_lt b r fun y hy=>h y (List.mem_cons_of_mem _ hy)
   . exact h x List.mem_cons_self
theorem qgC(h:Fld q O){s x:Nat}(b:s<q)(c:s≠0)(d:x<q):O.mul s x=0 ↔ x=0:=by
 constructor
 . intro e;refine Classical.byContradiction fun hx0=>?_;refine(El.fd (h:=h)).mulne (El.of_ne b c) (El.of_ne d hx0) ?_;rw[<- El.of_mul b d,e,El.of_zero]
 . intro e;rw[e,h.mulC _ _ b U0,h.mulZ _ b]
theorem fnz_scale(h:Fld q O){s:Nat}(f:s<q)(d:s≠0):∀ l:LN,(∀ x∈l,x<q)->fnz (scaleRow O s l)=if fnz l=0 then 0 else O.mul s (fnz l)
 |[],_=>rfl
 |x :: r,hl=>by
   have ih:=fnz_scale h f d r fun y hy=>hl y (List.mem_cons_of_mem _ hy)
   have c:=hl x List.mem_cons_self
   unfold scaleRow at ih ⊢
   rw[List.map_cons]
   unfold fnz
   by_cases b:x=0
   . rw[if_pos ((qgC h f d c).2 b),if_pos b,ih]
   . rw[if_neg (fun e=>b ((qgC h f d c).1 e)),if_neg b,if_neg b]
theorem norm_scale(h:Fld q O){s:Nat}(r:s<q)(t:s≠0)(l:LN)(v:∀x∈l,x<q)(u:fnz l≠0):normC O (scaleRow O s l)=normC O l:=by
 have H:=El.fd (h:=h);have b:=fnz_lt (by have:=h.q1;omega) l v;unfold normC;rw[fnz_scale h r t l v,if_neg u];generalize fnz l=f at *;have d:=h.mulL _ _ r b;have g:O.mul s f≠0:=fun e=>u ((qgC h r t b).1 e);unfold scaleRow;rw[List.map_map];apply List.map_congr_left;intro y n;have c:=v y n;have i:=h.invL _ d g;have j:=h.invL _ b u;show O.mul (O.inv (O.mul s f)) (O.mul s y)=O.mul (O.inv f) y;refine El.of_inj (h:=h) (h.mulL _ _ i (h.mulL _ _ r c)) (h.mulL _ _ j c) ?_;rw[El.of_mul i (h.mulL _ _ r c),El.of_mul r c,El.of_mul j c];have k:El.of h (O.inv (O.mul s f))*(El.of h s*El.of h f)=1:=by rw[<- El.of_mul r b,<- El.of_mul i d,h.mulC _ _ i d,h.inv _ d g,El.of_one]
 have m:El.of h (O.inv f)*El.of h f=1:=by rw[<- El.of_mul j b,h.mulC _ _ j b,h.inv _ b u,El.of_one]
 generalize El.of h (O.inv (O.mul s f))=A at *;generalize El.of h (O.inv f)=B at *;generalize El.of h s=S at *;generalize El.of h f=F at *;generalize El.of h y=Y at *;have o:Std.Associative (α:=El q O h) (·*·):=⟨H.mulA⟩;have p:Std.Commutative (α:=El q O h) (·*·):=⟨H.mulC⟩
 calc A*(S*Y)=A*(S*Y)*(B*F):=by rw[m,H.umul]
  _=(A*(S*F))*(B*Y):=by ac_rfl
  _=B*Y:=by rw[k,H.mulU]
theorem col_len(b:LL)(j:Nat):(colOf b j).length=b.length:=by simp[colOf]
theorem col_lt(g:0<q){d:LL}(f:∀r∈d,∀x∈r,x<q)(j:Nat):∀x∈colOf d j,x<q:=by intro x b;unfold colOf at b;obtain⟨r,c,rfl⟩:=List.mem_map.1 b;exact getD_ok (f r c) g j
theorem sm_two{n i j:Nat}{f:Nat->El q O h}(l:i<n)(m:j<n)(g:i≠j)(o:∀ k,k<n->k≠i->k≠j->f k=0):sm n f=f i+f j:=by
 have H:=El.fd (h:=h);have e:sm n f=sm n (fun k=>(if k=i then f i else 0)+(if k=j then f j else 0)):=by
  refine H.sm_congr fun k b=>?_;by_cases c:k=i
  . subst c;rw[if_pos rfl,if_neg g,H.zadd]
  . rw[if_neg c,H.addZ];by_cases d:k=j
    . subst d;rw[if_pos rfl]
    . rw[if_neg d];exact o k b c d
 rw[e,H.sm_add,H.sm_one l,H.sm_one m]
 . rw[if_pos rfl,if_pos rfl]
 . intro k _ b;rw[if_neg b]
 . intro k _ b;rw[if_neg b]
theorem cols_wt(h:Fld q O){W:LL}{n low:Nat}{b:Bool}(hc:ColsOk O W n b)(hh:∀ r∈W,∀ x∈r,x<q){w:LN}(hw:Dv.Ok q n w)(ho:∀ u∈W,sm n (fun j=>wd h w j*wd h u j)=0)(Z:Dv.wt w≠0)(h3:low<=3)(hb:low=3->b=true):low<=Dv.wt w:=by
 have H:=El.fd (h:=h);have T:=h.q1;rw[wt_supp] at Z ⊢;have o:=fun j=>mem_supp (w:=w) (j:=j);have t:=supp_nd w;rw[hw.1] at o;have c:=fun j=>getD_ok hw.2 U0 j;generalize supp w=S at *;match S,Z,o,t with
 |[],Z,_,_=>exact absurd rfl Z
 | [j],_,o,_ =>
   exfalso
   have g:=(o j).1 U2
   refine hc.1 j g.1 (fnz_zero _ fun x hx=>?_)
   unfold colOf at hx
   obtain⟨u,y,rfl⟩:=List.mem_map.1 hx
   have f:=ho u y
   rw[H.sm_one g.1] at f
   . refine Classical.byContradiction fun hx0=>H.mulne (El.of_ne (c j) g.2) (El.of_ne (getD_ok (hh u y) U0 j) hx0) f
   . intro k s K
     have:w.getD k 0=0:=Classical.byContradiction fun e=>K (by simpa using(o k).2 ⟨s,e⟩)
     unfold wd
     rw[this,El.of_zero,H.zmul]
 | [i,j],_,o,t =>
   rw[show[i,j].length=2 from rfl]
   refine Classical.byContradiction fun hlt=>?_
   have z:=hc.2 (hb U0)
   have p:=(o i).1 U2
   have g:=(o j).1 U2
   have m:i≠j:=by simpa using t
   have E:∀i j,i≠j->i<n->j<n->w.getD i 0≠0->w.getD j 0≠0->(∀k,k<n->k≠i->k≠j->w.getD k 0=0)->normC O (colOf W i)=normC O (colOf W j):=by
    intro i j m p g D M I
    have d:=h.invL _ (c i) D
    have v:=h.negL _ (h.mulL _ _ d (c j))
    have J:El.of h (O.inv (w.getD i 0))*El.of h (w.getD i 0)=1:=by
     rw[<- El.of_mul d (c i),h.mulC _ _ d (c i),h.inv _ (c i) D,El.of_one]
    have B:O.neg (O.mul (O.inv (w.getD i 0)) (w.getD j 0))≠0:=fun e=>by
     have N:=congrArg (El.of h) e
     rw[El.of_neg (h.mulL _ _ d (c j)),El.of_mul d (c j),El.of_zero] at N
     have P:=H.addN (El.of h (O.inv (w.getD i 0))*El.of h (w.getD j 0))
     rw[N,H.zadd] at P
     refine H.mulne (fun e4=>?_) (El.of_ne (c j) M) P
     rw[e4,H.zmul] at J
     exact H.ne J.symm
    have R:colOf W i=scaleRow O (O.neg (O.mul (O.inv (w.getD i 0)) (w.getD j 0))) (colOf W j):=by
     unfold colOf scaleRow
     rw[List.map_map]
     apply List.map_congr_left
     intro u y
     have L:=getD_ok (hh u y) (by omega:0<q) i
     have C:=getD_ok (hh u y) (by omega:0<q) j
     refine El.of_inj (h:=h) L (h.mulL _ _ v C) ?_
     show _=El.of h (O.mul _ _)
     rw[El.of_mul v C,El.of_neg (h.mulL _ _ d (c j)),El.of_mul d (c j)]
     have f:=ho u y
     rw[sm_two p g m fun k s h1 h2=>by unfold wd;rw[I k s h1 h2,El.of_zero,H.zmul]] at f
     unfold wd at f
     have Q:=H.negu f
     rw[H.negm]
     generalize El.of h (O.inv (w.getD i 0))=A at *
     generalize El.of h (w.getD i 0)=X at *
     generalize El.of h (w.getD j 0)=Y at *
     generalize El.of h (u.getD i 0)=U at *
     generalize El.of h (u.getD j 0)=V at *
     rw[H.mulA,Q,H.mneg,<- H.mulA,J,H.mulU]
     refine H.cancel (x:=-U) ?_
     rw[H.nadd,H.addN]
    rw[R]
    refine norm_scale h v B _ (col_lt U0 hh j) (hc.1 j g)
   have I:∀k,k<n->k≠i->k≠j->w.getD k 0=0:=fun k s h1 h2=>Classical.byContradiction fun e=>by
    have:=(o k).2 ⟨s,e⟩
    simp at this
    rcases this with e|e
    . exact h1 e
    . exact h2 e
   rcases Nat.lt_or_gt_of_ne m with hlt2|hlt2
   . exact z i j hlt2 g.1 (E i j m p.1 g.1 p.2 g.2 I)
   . exact z j i hlt2 p.1 (E j i (fun e=>m e.symm) g.1 p.1 g.2 p.2 fun k s h1 h2=>I k s h2 h1)
 |_ :: _ :: _ :: l,_,_,_=>simp;omega
end
end Al
namespace Al
section
variable {q:Nat} {O:Ops} {h:Fld q O}
def cst(h:Fld q O):Nat->El q O h
 |0=>0
 |n+1=>cst h n+1
structure Chr (q:Nat) (O:Ops) (h:Fld q O) (p:Nat):Prop where
 p1:2<=p
 pq:p<=q
 add:∀a b,a<p->b<p->O.add a b=(a+b) % p
def Es(h:Fld q O)(r:El q O h)(m:Nat)(l:LN):El q O h:=sm m fun j=>cst h (l.getD j 0)*pwr r j
theorem qdH{f:Nat->El q O h}:∀ n,sm (n+1) f=f 0+sm n fun j=>f (j+1)
 |0=>by
   have H:=El.fd (h:=h)
   show 0+f 0=f 0+0
   rw[H.addZ,H.zadd]
 |n + 1=>by
   have H:=El.fd (h:=h)
   show sm (n+1) f+f (n+1)=f 0+(sm n (fun j=>f (j+1))+f (n+1))
   rw[qdH n,H.addA]
structure Emb {p m m1:Nat} {l l1 md md1:LN} (hF:FT p m md l) (hF1:FT p m1 md1 l1) (r:El (p^m) (opsT p m l) (fld_of hF)):Prop where
 root:Es (fld_of hF) r m1 md1+pwr r m1=0
end
section
variable {p m m1:Nat} {l l1 md md1:LN} {hF:FT p m md l} {hF1:FT p m1 md1 l1} {r:El (p^m) (opsT p m l) (fld_of hF)}
def im(hF:FT p m md l)(m1:Nat)(r:El (p^m) (opsT p m l) (fld_of hF))(x:Nat):El (p^m) (opsT p m l) (fld_of hF):=Es (fld_of hF) r m1 (digs p m1 x)
end
end Al
namespace Al
def ns:Nat->(Nat->Nat)->Nat
 |0,_=>0
 |n+1,f=>ns n f+f n
theorem ns_congr{n:Nat}{f g:Nat->Nat}(h:∀j,j<n->f j=g j):ns n f=ns n g:=by
 induction n with
 |zero=>rfl
 |succ n ih=>show ns n f+f n=ns n g+g n;rw[ih fun j hj=>h j U0,h n U0]
theorem ns_zero{n:Nat}{f:Nat->Nat}(h:∀j,j<n->f j=0):ns n f=0:=by
 induction n with
 |zero=>rfl
 |succ n ih=>show ns n f+f n=0;rw[ih fun j hj=>h j U0,h n U0]
theorem ns_eq_zero{n:Nat}{f:Nat->Nat}(h:ns n f=0):∀j,j<n->f j=0:=by
 induction n with
 |zero=>intro j b;omega
 |succ n ih=>
  have c:ns n f+f n=0:=h;intro j b;by_cases e:j=n
  . subst e;omega
  . exact ih U0 j U0
theorem ns_front(n:Nat)(f:Nat->Nat):ns (n+1) f=f 0+ns n (fun j=>f (j+1)):=by
 induction n with
 |zero=>show 0+f 0=f 0+0;omega
 |succ n ih=>show ns (n+1) f+f (n+1)=f 0+(ns n (fun j=>f (j+1))+f (n+1));omega
section
variable {q:Nat} {O:Ops} {h:Fld q O}
def wf(n:Nat)(f:Nat->El q O h):Nat:=ns n fun j=>if(f j).n=0 then 0 else 1
theorem El.n_zero{x:El q O h}:x.n=0 ↔ x=0:=⟨fun e=>El.eq e,fun e=>by rw[e];rfl⟩
theorem qcW{n:Nat}{f:Nat->El q O h}(b:∀j,j<n->f j=0):wf n f=0:=ns_zero fun j hj=>by rw[if_pos (El.n_zero.2 (b j hj))]
theorem wf_eq_zero{n:Nat}{f:Nat->El q O h}(c:wf n f=0):∀j,j<n->f j=0:=fun j hj=>by
 have b:=ns_eq_zero c j hj
 refine El.n_zero.1 (Classical.byContradiction fun hne=>?_)
 rw[if_neg hne] at b
 omega
theorem wf_congr{n:Nat}{f g:Nat->El q O h}(b:∀j,j<n->f j=g j):wf n f=wf n g:=ns_congr fun j hj=>by rw[b j hj]
theorem wf_wt:∀ {w:LN},(∀ x∈w,x<q)->wf w.length (wd h w)=Dv.wt w
 |[],_=>rfl
 |x :: r,hw=>by
   have ih:=wf_wt (w:=r) fun y hy=>hw y (List.mem_cons_of_mem _ hy)
   unfold wf
   rw[List.length_cons,ns_front]
   have b:(wd h (x :: r) 0).n=x:=El.of_n (hw x List.mem_cons_self)
   show(if(wd h (x :: r) 0).n=0 then 0 else 1)+wf r.length (wd h r)=_
   rw[b,ih]
   rfl
def InC(h:Fld q O)(n:Nat)(G:LL)(f:Nat->El q O h):Prop:=∃c:Nat->El q O h,∀j,j<n->f j=sm G.length fun i=>c i*wd h (G.getD i []) j
theorem inC_lin(n:Nat)(G:LL):LinF q O h (InC h n G) where
 zero:=⟨fun _=>0,fun j _=>((El.fd (h:=h)).sm_zero fun i _=>(El.fd (h:=h)).zmul _).symm⟩
 step f g a hf hg:=by
  have H:=El.fd (h:=h)
  obtain⟨c,b⟩:=hf
  obtain⟨d,hd⟩:=hg
  refine⟨fun i=>c i+a*d i,fun j hj=>?_⟩
  show f j+a*g j=_
  rw[b j hj,hd j hj,<- H.sm_lin]
  refine H.sm_congr fun i _=>?_
  show _=(c i+a*d i)*_
  rw[H.rdist,H.mulA]
theorem InC.row{n:Nat}{G:LL}{i:Nat}(b:i<G.length):InC h n G (wd h (G.getD i [])):=by have H:=El.fd (h:=h);refine⟨fun k=>if k=i then 1 else 0,fun _ _=>?_⟩;rw[H.sm_one (i:=i) b fun k _ hk=>by show(if k=i then(1:El q O h) else 0)*_=0;rw[if_neg hk,H.zmul]];show _=(if i=i then(1:El q O h) else 0)*_;rw[if_pos rfl,H.mulU]
theorem InC.mem{n:Nat}{G:LL}{r:LN}(c:r∈G):InC h n G (wd h r):=by obtain⟨i,b,rfl⟩:=List.mem_iff_getElem.1 c;have:=InC.row (h:=h) (n:=n) b;rwa [show G.getD i []=G[i] by simp[List.getD,b]] at this
theorem wd_comb{n:Nat}:∀ (rows:LL)(msg out:LN),(∀ r∈rows,Dv.Ok q n r)->msg.length=rows.length->(∀ x∈msg,x<q)->Dv.Ok q n out ->
 ∀j,wd h (Dv.combO O out msg rows) j=wd h out j+sm rows.length fun i=>El.of h (msg.getD i 0)*wd h (rows.getD i []) j
 |[],[],out,_,_,_,_,j=>((El.fd (h:=h)).zadd _).symm
 |[],_ :: _,_,_,hl,_,_,_=>by simp at hl
 |_ :: _,[],_,_,hl,_,_,_=>by simp at hl
 |r :: rs,x :: xs,out,hr,hl,hm,ho,j=>by
   have H:=El.fd (h:=h)
   obtain⟨k,l⟩:=hr r List.mem_cons_self
   have g:=hm x List.mem_cons_self
   have c:=fun y hy=>hr y (List.mem_cons_of_mem _ hy)
   have d:=fun y hy=>hm y (List.mem_cons_of_mem _ hy)
   have b:xs.length=rs.length:=by simpa using hl
   rw[List.length_cons,qdH]
   show wd h (Dv.combO O out (x :: xs) (r :: rs)) j=wd h out j+(El.of h x*wd h r j+sm rs.length fun i=>El.of h (xs.getD i 0)*wd h (rs.getD i []) j)
   unfold Dv.combO
   by_cases f:x=0
   . rw[if_pos f,wd_comb rs xs out c b d ho j,f,El.of_zero,H.zmul,H.addZ]
   . rw[if_neg f,wd_comb rs xs _ c b d ⟨by unfold Pln.addRow;rw[List.length_zipWith,ho.1,k,Nat.min_self],(qdB h.self g ho.2 l).2⟩ j,wd_addRow g ho.2 l (by rw[ho.1,k]),H.addA]
def MinW(h:Fld q O)(n:Nat)(G:LL)(low:Nat):Prop:=∀f,InC h n G f->(∀j,j<n->f j=0)\/low<=wf n f
theorem comb_ok(h:Fld q O){n:Nat}{rows:LL}:∀(msg out:LN),(∀r∈rows,Dv.Ok q n r)->(∀x∈msg,x<q)->Dv.Ok q n out->Dv.Ok q n (Dv.combO O out msg rows):=fun msg out hr hm ho=>
 (LinF.comb (h:=h) (Q:=fun _=>True) ⟨trivial,fun _ _ _ _ _=>trivial⟩ (fun r hm=>⟨hr r hm,trivial⟩) msg out hm ho trivial).2
theorem minW_of{n low:Nat}{G:LL}(u:∀r∈G,Dv.Ok q n r)(v:∀msg:LN,msg.length=G.length->(∀x∈msg,x<q)->Dv.wt (Dv.combO O (List.replicate n 0) msg G)=0\/low<=Dv.wt (Dv.combO O (List.replicate n 0) msg G)):MinW h n G low:=by
 have H:=El.fd (h:=h);rintro f ⟨c,hc⟩;have t:=h.q1;have m:Dv.Ok q n (List.replicate n 0):=Dv.zeros_ok U0;have d:((List.range G.length).map fun i=>(c i).n).length=G.length:=U2;have b:∀x∈(List.range G.length).map fun i=>(c i).n,x<q:=fun x hx=>by obtain⟨i,_,rfl⟩:=List.mem_map.1 hx;exact(c i).lt
 have l:=wd_comb (h:=h) G _ _ u d b m;obtain⟨p,s⟩:=comb_ok h (rows:=G) _ _ u b m;have k:∀i,i<G.length->El.of h (((List.range G.length).map fun i=>(c i).n).getD i 0)=c i:=fun i hi=>by
  have:((List.range G.length).map fun i=>(c i).n).getD i 0=(c i).n:=by simp[List.getD,hi]
  rw[this];exact El.eq (El.of_n (c i).lt)
 have g:=v _ d b;generalize (List.range G.length).map (fun i=>(c i).n)=msg at *;have o:∀j,j<n->wd h (Dv.combO O (List.replicate n 0) msg G) j=f j:=fun j hj=>by rw[l j,qeH,H.addZ,hc j hj];refine H.sm_congr fun i hi=>?_;rw[k i hi]
 have e:Dv.wt (Dv.combO O (List.replicate n 0) msg G)=wf n f:=by rw[<- wf_wt (h:=h) s,p];exact wf_congr o
 rw[e] at g;rcases g with h1|h1
 . exact .inl (wf_eq_zero h1)
 . exact .inr h1
end
end Al
namespace Al
def sw(q:Nat):Nat->Nat->(LN->Int)->Int
 |0,0,φ=>φ []
 |0,_+1,_=>0
 |n+1,0,φ=>sw q n 0 fun v=>φ (0 :: v)
 |n+1,k+1,φ=>sw q n (k+1) (fun v=>φ (0 :: v))+zs (q-1) fun a=>sw q n k fun v=>φ ((a+1):: v)
theorem qfO{q:Nat}:∀ {n k:Nat} {φ ψ:LN->Int},(∀ v:LN,v.length=n->φ v=ψ v)->sw q n k φ=sw q n k ψ
 |0,0,_,_,h=>h [] rfl
 |0,_+1,_,_,_=>rfl
 |n+1,0,_,_,h=>qfO (n:=n) (k:=0) fun v hv=>h (0 :: v) (by rw[List.length_cons,hv])
 |n + 1,k + 1,_,_,h=>by
   unfold sw
   rw[qfO (n:=n) (k:=k+1) fun v hv=>h (0 :: v) (by rw[List.length_cons,hv]),qeX fun a _=>qfO (n:=n) (k:=k) fun v hv=>h ((a+1):: v) (by rw[List.length_cons,hv])]
theorem sw_zero{q:Nat}:∀ (n k:Nat),sw q n k (fun _=>0)=0
 |0,0=>rfl
 |0,_+1=>rfl
 |n+1,0=>sw_zero n 0
 |n + 1,k + 1=>by
   unfold sw
   rw[sw_zero n (k+1),zs_zero fun a _=>sw_zero n k]
   rfl
theorem sw_add{q:Nat}:∀ (n k:Nat) (φ ψ:LN->Int),sw q n k (fun v=>φ v+ψ v)=sw q n k φ+sw q n k ψ
 |0,0,_,_=>rfl
 |0,_+1,_,_=>rfl
 |n+1,0,φ,ψ=>sw_add n 0 (fun v=>φ (0 :: v)) fun v=>ψ (0 :: v)
 |n + 1,k + 1,φ,ψ=>by
   unfold sw
   rw[sw_add n (k+1) (fun v=>φ (0 :: v)) fun v=>ψ (0 :: v),qeX fun a _=>sw_add n k (fun v=>φ ((a+1):: v)) fun v=>ψ ((a+1):: v),zs_add]
   omega
theorem sw_zs{q n k:Nat}(F:Nat->LN->Int):∀ m,sw q n k (fun v=>zs m fun a=>F a v)=zs m fun a=>sw q n k (F a)
 |0=>sw_zero n k
 |m + 1=>by
   show sw q n k (fun v=>zs m (fun a=>F a v)+F m v)=_
   rw[sw_add,sw_zs F m]
   rfl
theorem qfM{q:Nat}:∀ {n k:Nat} {φ:LN->Int},(∀ v,0<=φ v)->0<=sw q n k φ
 |0,0,_,h=>h []
 |0,_+1,_,_=>Int.le_refl 0
 |n+1,0,_,h=>qfM (n:=n) (k:=0) fun v=>h (0 :: v)
 |n + 1,k + 1,_,h=>by
   unfold sw
   have h1:=qfM (q:=q) (n:=n) (k:=k+1) fun v=>h (0 :: v)
   have b:=zs_nonneg (n:=q-1) fun a _=>qfM (q:=q) (n:=n) (k:=k) fun v=>h ((a+1):: v)
   omega
theorem sw_pos{q:Nat}:∀ {v:LN} {φ:LN->Int},(∀ v,0<=φ v)->(∀ x∈v,x<q)->0 < φ v->0<sw q v.length (Dv.wt v) φ
 |[],_,_,_,hp=>hp
 | 0 :: v,φ,h,hv,hp => by
   have ih:=sw_pos (v:=v) (φ:=fun v=>φ (0 :: v)) (fun v=>h _) (fun x hx=>hv x (List.mem_cons_of_mem _ hx)) hp
   have e:Dv.wt (0 :: v)=Dv.wt v:=by simp[Dv.wt]
   rw[e,List.length_cons]
   cases hk:Dv.wt v with
   |zero=>
     rw[hk] at ih
     exact ih
   |succ k=>
     rw[hk] at ih
     unfold sw
     have b:=zs_nonneg (n:=q-1) fun a _=>qfM (q:=q) (n:=v.length) (k:=k) fun v=>h ((a+1):: v)
     omega
 | (a + 1) :: v,φ,h,hv,hp => by
   have ih:=sw_pos (v:=v) (φ:=fun v=>φ ((a+1):: v)) (fun v=>h _) (fun x hx=>hv x (List.mem_cons_of_mem _ hx)) hp
   have d:=hv (a+1) List.mem_cons_self
   have e:Dv.wt ((a+1):: v)=Dv.wt v+1:=by
    show(if a+1=0 then 0 else 1)+Dv.wt v=_
    rw[if_neg U0,Nat.add_comm]
   rw[e,List.length_cons]
   unfold sw
   have c:=qfM (q:=q) (n:=v.length) (k:=Dv.wt v+1) fun v=>h (0 :: v)
   have b:=zs_pos (n:=q-1) (i:=a) (fun a _=>qfM (q:=q) (n:=v.length) (k:=Dv.wt v) fun v=>h ((a+1):: v)) U0 ih
   omega
def sms(q:Nat):Nat->(LN->Int)->Int
 |0,φ=>φ []
 |n+1,φ=>zs q fun a=>sms q n fun m=>φ (a :: m)
theorem qfS{q:Nat}:∀ {n:Nat} {φ ψ:LN->Int},(∀ m:LN,m.length=n->(∀ x∈m,x<q)->φ m=ψ m)->sms q n φ=sms q n ψ
 |0,_,_,h=>h [] rfl U2
 |n + 1,_,_,h=>qeX fun a ha=>qfS (n:=n) fun m hm hx=>h (a :: m) (by rw[List.length_cons,hm]) fun x hx2=>by
   rcases List.mem_cons.1 hx2 with rfl|hx2
   . exact ha
   . exact hx x hx2
theorem sms_mul{q:Nat}:∀ (n:Nat) (φ:LN->Int) (a:Int),sms q n (fun m=>φ m*a)=sms q n φ*a
 |0,_,_=>rfl
 |n + 1,φ,a=>by
   unfold sms
   rw[<- zs_mul]
   exact qeX fun b _=>sms_mul n (fun m=>φ (b :: m)) a
theorem zs_swap(n m:Nat)(f:Nat->Nat->Int):zs n (fun j=>zs m (fun i=>f i j))=zs m (fun i=>zs n (fun j=>f i j)):=by
 induction n with
 |zero=>exact(zs_zero fun i _=>rfl).symm
 |succ n ih=>show zs n (fun j=>zs m (fun i=>f i j))+zs m (fun i=>f i n)=_;rw[ih,<- zs_add];rfl
theorem sms_zs{q:Nat}:∀ (n k:Nat)(F:Nat->LN->Int),sms q n (fun m=>zs k fun i=>F i m)=zs k fun i=>sms q n (F i)
 |0,_,_=>rfl
 |n + 1,k,F=>by
   unfold sms
   rw[qeX fun a _=>sms_zs n k fun i m=>F i (a :: m)]
   exact zs_swap q k fun i a=>sms q n fun m=>F i (a :: m)
theorem sms_sw{q n k:Nat}:∀ (l:Nat)(F:LN->LN->Int),sms q l (fun m=>sw q n k (F m))=sw q n k fun v=>sms q l fun m=>F m v
 |0,_=>rfl
 |l + 1,F=>by
   unfold sms
   rw[qeX fun a _=>sms_sw l fun m=>F (a :: m)]
   exact(sw_zs (fun a v=>sms q l fun m=>F (a :: m) v) q).symm
section
variable {q:Nat} {O:Ops} {h:Fld q O}
def ez(z:El q O h):Int:=if z.n=0 then(q:Int)-1 else -1
theorem ez_sum{x:El q O h}(j:x≠0)(t:El q O h):zs q (fun a=>ez (t+El.of h a*x))=0:=by
 have H:=El.fd (h:=h);obtain⟨y,d⟩:=H.inv x j;have e:∀a,a<q->ez (t+El.of h a*x)=if a=(-t*y).n then(q:Int)-1 else -1:=fun a ha=>by
  unfold ez;have i:(t+El.of h a*x).n=0 ↔ a=(-t*y).n:=by
   constructor
   . intro e;have b:t+El.of h a*x=0:=El.eq e;have f:=H.negu b;(have g:El.of h a=-t*y:=by rw[<- f,H.mulA,d,H.umul]);rw[<- g,El.of_n ha]
   . intro e;have b:El.of h a=-t*y:=El.eq (by rw[El.of_n ha,e]);rw[b,H.mulA,H.mulC y,d,H.umul,H.addN];rfl
  by_cases c:a=(-t*y).n
  . rw[if_pos c,if_pos (i.2 c)]
  . rw[if_neg c,if_neg fun e=>c (i.1 e)]
 rw[qeX e,zs_one (-t*y).lt];have:((q:Int)-1)*-1=-((q:Int)-1):=by rw[Int.mul_neg,Int.mul_one]
 rw[this];omega
def dl(h:Fld q O):LN->LN->El q O h
 |x :: c,y :: v=>El.of h y*El.of h x+dl h c v
 |_,_=>0
def gk(q:Nat):LN->Nat->Int
 |[],0=>1
 |[],_+1=>0
 |_ :: c,0=>gk q c 0
 |x :: c,k+1=>if x=0 then gk q c (k+1)+((q:Int)-1)*gk q c k else gk q c (k+1)-gk q c k
theorem gk_cons(q x:Nat)(c:LN)(k:Nat):gk q (x :: c) (k+1)=if x=0 then gk q c (k+1)+((q:Int)-1)*gk q c k else gk q c (k+1)-gk q c k:=rfl
theorem zs_tail(b:0<q)(f:Nat->Int):zs (q-1) (fun a=>f (a+1))=zs q f-f 0:=by have:=zs_front (q-1) f;rw[Nat.sub_add_cancel b] at this;omega
theorem sw_ez:∀ (c:LN),(∀ x∈c,x<q)->∀ (k:Nat)(t:El q O h),sw q c.length k (fun v=>ez (t+dl h c v))=ez t*gk q c k
 |[],_,0,t=>by
   show ez (t+0)=ez t*1
   rw[(El.fd (h:=h)).zadd,Int.mul_one]
 |[],_,k+1,t=>(Int.mul_zero _).symm
 |x :: c,hc,0,t=>by
   have H:=El.fd (h:=h)
   have l:=sw_ez c (fun y hy=>hc y (List.mem_cons_of_mem _ hy)) 0 t
   show sw q c.length 0 (fun v=>ez (t+(El.of h 0*El.of h x+dl h c v)))=ez t*gk q c 0
   rw[<- l]
   refine qfO fun v _=>?_
   rw[El.of_zero,H.zmul,H.addZ]
 | x :: c,hc,k + 1,t => by
   have H:=El.fd (h:=h)
   have b:∀y∈c,y<q:=fun y hy=>hc y (List.mem_cons_of_mem _ hy)
   have j:0<q:=by have:=h.q1;omega
   show sw q c.length (k+1) (fun v=>ez (t+(El.of h 0*El.of h x+dl h c v)))+zs (q-1) (fun a=>sw q c.length k fun v=>ez (t+(El.of h (a+1)*El.of h x+dl h c v)))=ez t*gk q (x :: c) (k+1)
   have f:sw q c.length (k+1) (fun v=>ez (t+(El.of h 0*El.of h x+dl h c v)))=ez t*gk q c (k+1):=by
    rw[<- sw_ez c b (k+1) t]
    refine qfO fun v _=>?_
    rw[El.of_zero,H.zmul,H.addZ]
   have i:∀a,sw q c.length k (fun v=>ez (t+(El.of h (a+1)*El.of h x+dl h c v)))=ez (t+El.of h (a+1)*El.of h x)*gk q c k:=fun a=>by
    rw[<- sw_ez c b k (t+El.of h (a+1)*El.of h x)]
    refine qfO fun v _=>?_
    rw[H.addA]
   rw[f,qeX fun a _=>i a,zs_mul,zs_tail j fun a=>ez (t+El.of h a*El.of h x)]
   rw[gk_cons]
   by_cases d:x=0
   . rw[if_pos d,d,El.of_zero,qeX (g:=fun _=>ez t) (fun a _=>by rw[H.mulZ,H.zadd]),zs_const,H.mulZ,H.zadd,Int.mul_add]
     have:(q:Int)*ez t-ez t=ez t*((q:Int)-1):=by rw[Int.mul_sub,Int.mul_one,Int.mul_comm]
     rw[this,Int.mul_assoc]
   . rw[if_neg d,ez_sum (El.of_ne (hc x List.mem_cons_self) d),El.of_zero,H.zmul,H.zadd,Int.zero_sub,Int.neg_mul,Int.mul_sub]
     omega
def ls(h:Fld q O):LN->List (El q O h)->El q O h
 |a :: m,s :: l=>El.of h a*s+ls h m l
 |_,_=>0
def allz:List (El q O h)->Bool
 |[]=>true
 |s :: l=>decide (s.n=0) && allz l
theorem allz_iff:∀ {l:List (El q O h)},allz l=true ↔ ∀ s∈l,s=0
 |[]=>by simp[allz]
 |s :: l=>by
   have ih:=allz_iff (l:=l)
   unfold allz
   rw[Bool.and_eq_true,ih,decide_eq_true_eq,El.n_zero]
   simp
theorem sms_ez:∀ (l:List (El q O h))(t:El q O h),sms q l.length (fun m=>ez (t+ls h m l))=if allz l=true then (q:Int) ^ l.length*ez t else 0
 |[],t=>by
   rw[if_pos (allz_iff.2 U2)]
   show ez (t+0)=(q:Int)^0*ez t
   rw[(El.fd (h:=h)).zadd,Int.pow_zero,Int.one_mul]
 | s :: l,t => by
   have H:=El.fd (h:=h)
   show zs q (fun a=>sms q l.length fun m=>ez (t+(El.of h a*s+ls h m l)))=_
   have e:∀a,sms q l.length (fun m=>ez (t+(El.of h a*s+ls h m l)))=if allz l=true then(q:Int)^l.length*ez (t+El.of h a*s) else 0:=fun a=>by
    rw[<- sms_ez l (t+El.of h a*s)]
    refine qfS fun m _ _=>?_
    rw[H.addA]
   rw[qeX fun a _=>e a]
   by_cases b:allz l=true
   . rw [qeX (g := fun a => ez (t + El.of h a * s) * (q : Int) ^ l.length) fun a _ => by rw [if_pos b,Int.mul_comm],zs_mul]
     by_cases c:s=0
     . rw [if_pos (allz_iff.2 fun x hx => by
        rcases List.mem_cons.1 hx with rfl|hx
        . exact c
        . exact allz_iff.1 b x hx)]
       rw[c,qeX (g:=fun _=>ez t) (fun a _=>by rw[H.mulZ,H.zadd]),zs_const,List.length_cons,Int.pow_succ,Int.mul_right_comm,Int.mul_comm (q:Int) ((q:Int)^l.length)]
     . rw[if_neg fun hx=>c (allz_iff.1 hx s List.mem_cons_self),ez_sum c,Int.zero_mul]
   . rw[if_neg fun hx=>b (allz_iff.2 fun x hx2=>allz_iff.1 hx x (List.mem_cons_of_mem _ hx2))]
     exact zs_zero fun a _=>if_neg b
theorem ez_zero:ez (0:El q O h)=(q:Int)-1:=if_pos rfl
theorem mac_pos{n:Nat}{rows:LL}(W:LN->LN)(o:∀ m:LN,m.length=rows.length->(∀ x∈m,x<q)->Dv.Ok q n (W m)/\∀ v:LN,v.length=n->dl h (W m) v=ls h m (rows.map fun r=>dl h r v)){v:LN}(l:Dv.Ok q n v)(p:∀ r∈rows,dl h r v=0):0<sms q rows.length (fun m=>gk q (W m) (Dv.wt v)):=by
 have H:=El.fd (h:=h);have k:=h.q1;have e:sms q rows.length (fun m=>gk q (W m) (Dv.wt v))*((q:Int)-1)=sw q n (Dv.wt v) (fun u=>sms q rows.length fun m=>ez (0+ls h m (rows.map fun r=>dl h r u))):=by rw[<- sms_sw,<- sms_mul];refine qfS fun m hm hx=>?_;obtain⟨c,i⟩:=o m hm hx;have d:=sw_ez (h:=h) (W m) c.2 (Dv.wt v) 0;rw[ez_zero,c.1] at d;rw[Int.mul_comm,<- d];exact qfO fun u hu=>by rw[i u hu]
 have g:∀u,sms q rows.length (fun m=>ez (0+ls h m (rows.map fun r=>dl h r u)))=if allz (rows.map fun r=>dl h r u)=true then(q:Int)^rows.length*ez (0:El q O h) else 0:=fun u=>by have:=sms_ez (h:=h) (rows.map fun r=>dl h r u) 0;rw[List.length_map] at this;exact this
 have b:(0:Int)<(q:Int)^rows.length*ez (0:El q O h):=by rw[ez_zero];exact Int.mul_pos (Int.pow_pos U0) U0
 have f:0<sw q n (Dv.wt v) (fun u=>sms q rows.length fun m=>ez (0+ls h m (rows.map fun r=>dl h r u))):=by
  have:=sw_pos (q:=q) (v:=v) (φ:=fun u=>sms q rows.length fun m=>ez (0+ls h m (rows.map fun r=>dl h r u))) (fun u=>by
   rw[g u]
   split
   . exact Int.le_of_lt b
   . exact Int.le_refl 0) l.2 (by
   show 0<sms q rows.length (fun m=>ez (0+ls h m (rows.map fun r=>dl h r v)))
   rw[g v,if_pos (allz_iff.2 fun s hs=>by
    obtain⟨r,j,rfl⟩:=List.mem_map.1 hs
    exact p r j)]
   exact b)
  rw[l.1] at this;exact this
 rw[<- e] at f;exact Int.pos_of_mul_pos_left f U0
end
end Al
namespace Al
def zc:LN->Nat
 |[]=>0
 |x :: c=>zc c+if x=0 then 1 else 0
theorem zc_wt:∀ c:LN,zc c+Dv.wt c=c.length
 |[]=>rfl
 |x :: c=>by
   have:=zc_wt c
   unfold zc Dv.wt
   rw[List.length_cons]
   split<;>omega
theorem gk_pm(q:Nat):∀ (c:LN)(k:Nat),gk q c k=pm q (Dv.wt c) (zc c) k
 |[],0=>rfl
 |[],_+1=>rfl
 | x :: c,0 => by
   have ih:=gk_pm q c 0
   unfold gk zc Dv.wt
   by_cases b:x=0
   . rw[if_pos b,if_pos b,Nat.zero_add,pm_zero,ih]
   . rw[if_neg b,if_neg b,Nat.add_comm,ih]
     rfl
 | x :: c,k + 1 => by
   have d:=gk_pm q c (k+1)
   have f:=gk_pm q c k
   unfold gk zc Dv.wt
   by_cases b:x=0
   . rw[if_pos b,if_pos b,if_pos b,Nat.zero_add,pm_plus,d,f]
   . rw[if_neg b,if_neg b,if_neg b,Nat.add_comm 1,d,f]
     rfl
def wc(q l:Nat)(W:LN->LN)(i:Nat):Int:=sms q l fun m=>if Dv.wt (W m)=i then 1 else 0
theorem sms_gk{q l n k:Nat}{W:LN->LN}(h:∀m:LN,m.length=l->(∀x∈m,x<q)->(W m).length=n):sms q l (fun m=>gk q (W m) k)=zs (n+1) fun i=>wc q l W i*tb q n i k:=by
 have e:sms q l (fun m=>gk q (W m) k)=sms q l (fun m=>zs (n+1) fun i=>(if Dv.wt (W m)=i then 1 else 0)*tb q n i k):=by
  refine qfS fun m hm hx=>?_;have f:=h m hm hx;have g:=zc_wt (W m);have d:Dv.wt (W m)<n+1:=U0;have b:=zs_one (n:=n+1) (i:=Dv.wt (W m)) (u:=tb q n (Dv.wt (W m)) k) (v:=0) d;rw[Int.mul_zero,Int.add_zero] at b;have ez:n-Dv.wt (W m)=zc (W m):=U0;rw[gk_pm,<- ez,<- tb_pm q n _ U0,<- b];refine qeX fun j _=>?_;by_cases c:j=Dv.wt (W m)
  . rw[if_pos c,if_pos c.symm,Int.one_mul,c]
  . rw[if_neg c,if_neg fun e=>c e.symm,Int.zero_mul]
 rw[e,sms_zs];exact qeX fun i _=>sms_mul l (fun m=>if Dv.wt (W m)=i then 1 else 0) _
end Al
end Go.Proofs.YtflejelbdlelpaaGreat
