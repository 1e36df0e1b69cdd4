/- Parts of the proof. -/
import Derived.Test.YtkcdlealipfnbaaGreatR19
import Derived.Test.YtkcdlealipfnbaaGreatR18
set_option maxRecDepth 100000
set_option maxHeartbeats 8000000
namespace Go.Proofs.YtkcdlealipfnbaaGreat
open Go.RowKit Pln
structure GS (w:Wo) (b B g0 c0:Nat) (n:Int) (rows:LL) (k:Nat) (v:Value) (bs:List (Nat × Nat)) (row:LN) (W:Wo):Prop where
 below:zB w W
 lo:w.heap.size<=b/\w.heap.size<=g0/\b<B/\g0<B/\b≠g0/\B<=W.heap.size
 box:W.heap[b]?=some (.cells [Y n,v].toArray 54 (0,0))
 grid:LGrid W B v rows bs k
 run:Row W w.heap.size g0 c0 (nz row)
end Go.Proofs.YtkcdlealipfnbaaGreat
namespace Go.Proofs.YtkcdlealipfnbaaGreat
open Pln
namespace Al
section
variable {q:Nat} {O:Ops} {h:Fld q O}
theorem wd_set{v:LN}{p y j:Nat}(b:p<v.length):wd h (v.set p y) j=if j=p then El.of h y else wd h v j:=by
 unfold wd;by_cases e:j=p
 . subst e;rw[if_pos rfl];simp[List.getD,b]
 . rw[if_neg e];simp only[List.getD];rw[List.getElem?_set_ne (fun e2=>e e2.symm)]
theorem dot_set{n p y:Nat}{f:Nat->El q O h}{v:LN}(i:v.length=n)(g:p<n)(d:wd h v p=0):sm n (fun j=>f j*wd h (v.set p y) j)=sm n (fun j=>f j*wd h v j)+f p*El.of h y:=by
 have H:=El.fd (h:=h);have e:sm n (fun j=>f j*wd h (v.set p y) j)=sm n (fun j=>f j*wd h v j+(if j=p then f p*El.of h y else 0)):=by
  refine H.sm_congr fun j c=>?_;rw[wd_set U0];by_cases b:j=p
  . subst b;rw[if_pos rfl,if_pos rfl,d,H.mulZ,H.addZ]
  . rw[if_neg b,if_neg b,H.zadd]
 rw[e,H.sm_add];congr 1;rw[H.sm_one g]
 . rw[if_pos rfl]
 . intro j _ c;rw[if_neg c]
theorem kerK_at{rows:LL}{piv:LN}{cols c j:Nat}(f:j≠c):∀ t,(∀ k,k<t->piv.getD k 0≠j)->wd h (kerK O rows piv cols c t) j=0
 | 0,_ => by
   unfold kerK wd
   have:((List.replicate cols 0).set c 1).getD j 0=0:=by
    simp only[List.getD]
    rw[List.getElem?_set_ne (fun e=>f e.symm),List.getElem?_replicate]
    split<;>rfl
   rw[this,El.of_zero]
 | t + 1,hk => by
   have d:=kerK_at (rows:=rows) (piv:=piv) (cols:=cols) f t (fun k hk2=>hk k U0)
   have b:=hk t U0
   unfold kerK
   unfold wd at d ⊢
   have e:((kerK O rows piv cols c t).set (piv.getD t 0) (O.neg ((rows.getD t []).getD c 0))).getD j 0=(kerK O rows piv cols c t).getD j 0:=by
    simp only[List.getD] at b ⊢
    rw[List.getElem?_set_ne b]
   rw[e,d]
theorem ker_dot{m:LL}{piv:LN}{r cols c:Nat}(u:Grid q r cols m)(s:∀ i k,i<r->k<r->at2 m i (piv.getD k 0)=if i=k then 1 else 0)(p:c<cols)(n:∀ k,k<r->piv.getD k 0≠c)(o:∀ k,k<r->piv.getD k 0<cols){i:Nat}(v:i<r):
 ∀t,t<=r->sm cols (fun j=>wd h (m.getD i []) j*wd h (kerK O m piv cols c t) j)=wd h (m.getD i []) c+sm t (fun k=>wd h (m.getD i []) (piv.getD k 0)*-wd h (m.getD k []) c)
 | 0,_ => by
   have H:=El.fd (h:=h)
   rw[H.sm_one p]
   . have : wd h (kerK O m piv cols c 0) c = 1 := by
      unfold kerK wd
      have:((List.replicate cols 0).set c 1).getD c 0=1:=by simp[List.getD,p]
      rw[this,El.of_one]
     rw[this,H.umul]
     exact(H.zadd _).symm
   . intro j _ f
     rw[kerK_at f 0 (fun k hk=>U0),H.mulZ]
 | t + 1,ht => by
   have H:=El.fd (h:=h)
   have l:=ker_dot u s p n o v t U0
   have hd:∀k,k<t->piv.getD k 0≠piv.getD t 0:=fun k hk e=>by
    have b:=s k k U0 U0
    have d:=s k t U0 U0
    rw[if_pos rfl] at b
    rw[if_neg U0,<- e,b] at d
    omega
   have g:=u.at_ (i:=t) (c:=c) U0 p
   show sm cols (fun j=>wd h (m.getD i []) j*wd h ((kerK O m piv cols c t).set (piv.getD t 0) (O.neg ((m.getD t []).getD c 0))) j)=wd h (m.getD i []) c+(sm t (fun k=>wd h (m.getD i []) (piv.getD k 0)*-wd h (m.getD k []) c)+wd h (m.getD i []) (piv.getD t 0)*-wd h (m.getD t []) c)
   rw[dot_set (kerK_len _ _ _ _ _ _) (o t U0) (kerK_at (n t U0) t hd),l,H.addA]
   congr 2
   rw[El.of_neg (by exact g)]
   rfl
theorem ker_orth{n cols:Nat}{rows:LL}(z:Grid q n cols rows):∀u∈kerM O rows cols,∀g∈canonM O rows cols,sm cols (fun j=>wd h g j*wd h u j)=0:=by
 have H:=El.fd (h:=h);have E:=h.self;have m:=canon_grid E z;have v:=kerRows_grid (piv:=(elGo O rows cols).piv) E h.q1 m rfl;have L:LinF q O h fun f=>∀g∈canonM O rows cols,sm cols (fun j=>wd h g j*f j)=0:=by
  refine⟨fun g _=>H.sm_zero fun j _=>H.mulZ _,fun f g a hf hg u hu=>?_⟩;have e:sm cols (fun j=>wd h u j*(f j+a*g j))=sm cols (fun j=>wd h u j*f j+a*(wd h u j*g j)):=H.sm_congr fun j _=>by rw[H.dist,<- H.mulA,<- H.mulA,H.mulC a]
  rw[e,H.sm_lin,hf u hu,hg u hu,H.mulZ,H.addZ]
 unfold kerM;refine L.canon v fun u hu g hg=>?_;unfold kerRows at hu;obtain⟨c,y,rfl⟩:=List.mem_map.1 hu;have l:=List.mem_filter.1 y;have s:c<cols:=by simpa using l.1
 have t:c∉(elGo O rows cols).piv:=by have:=l.2;simpa using this
 obtain⟨i,r,rfl⟩:=List.mem_iff_getElem.1 hg;have b:i<(elGo O rows cols).piv.length:=by rw[<- canonM_len];exact r
 have e:(canonM O rows cols)[i]=(canonM O rows cols).getD i []:=by simp[List.getD,r]
 have p:∀k,k<(elGo O rows cols).piv.length->(elGo O rows cols).piv.getD k 0∈(elGo O rows cols).piv:=fun k d=>by rw[getD_at d];exact List.getElem_mem d
 rw[e,ker_dot m (fun i k r d=>unit_canon h z r d) s (fun k d e=>t (by rw[<- e];exact p k d)) (fun k d=>elGo_piv_lt O rows cols _ (p k d)) b _ zn];have o:sm (elGo O rows cols).piv.length (fun k=>wd h ((canonM O rows cols).getD i []) ((elGo O rows cols).piv.getD k 0)*-wd h ((canonM O rows cols).getD k []) c)=-wd h ((canonM O rows cols).getD i []) c:=by
  rw[H.sm_one b]
  . rw[<- qcJ,unit_canon h z b b,if_pos rfl,El.of_one,H.mulU]
  . intro k d x;rw[<- qcJ,unit_canon h z b d,if_neg (fun e=>x e.symm),El.of_zero,H.zmul]
 rw[o,H.addN]
def fnz:LN->Nat
 |[]=>0
 |x :: r=>if x=0 then fnz r else x
def colOf(hs:LL)(j:Nat):LN:=hs.map fun r=>r.getD j 0
def normC(O:Ops)(col:LN):LN:=scaleRow O (O.inv (fnz col)) col
def ColsOk(O:Ops)(hs:LL)(n:Nat)(b:Bool):Prop:=(∀j,j<n->fnz (colOf hs j)≠0)/\(b=true->∀i j,i<j->j<n->normC O (colOf hs i)≠normC O (colOf hs j))
theorem fnz_lt(b:0<q):∀ l:LN,(∀ x∈l,x<q)->fnz l<q
 |[],_=>b
 |x :: r,h=>by
   unfold fnz
   split
   . exact fnz_lt b r fun y hy=>h y (List.mem_cons_of_mem _ hy)
   . exact h x List.mem_cons_self
theorem col_len(b:LL)(j:Nat):(colOf b j).length=b.length:=by simp[colOf]
theorem col_lt(g:0<q){d:LL}(f:∀r∈d,∀x∈r,x<q)(j:Nat):∀x∈colOf d j,x<q:=by intro x b;unfold colOf at b;obtain⟨r,c,rfl⟩:=List.mem_map.1 b;exact getD_ok (f r c) g j
end
end Al
namespace Al
section
variable {q:Nat} {O:Ops} {h:Fld q O}
def cst(h:Fld q O):Nat->El q O h
 |0=>0
 |n+1=>cst h n+1
structure Chr (q:Nat) (O:Ops) (h:Fld q O) (p:Nat):Prop where
 p1:2<=p
 pq:p<=q
 add:∀a b,a<p->b<p->O.add a b=(a+b) % p
def Es(h:Fld q O)(r:El q O h)(m:Nat)(l:LN):El q O h:=sm m fun j=>cst h (l.getD j 0)*pwr r j
theorem qdH{f:Nat->El q O h}:∀ n,sm (n+1) f=f 0+sm n fun j=>f (j+1)
 |0=>by
   have H:=El.fd (h:=h)
   show 0+f 0=f 0+0
   rw[H.addZ,H.zadd]
 |n + 1=>by
   have H:=El.fd (h:=h)
   show sm (n+1) f+f (n+1)=f 0+(sm n (fun j=>f (j+1))+f (n+1))
   rw[qdH n,H.addA]
structure Emb {p m m1:Nat} {l l1 md md1:LN} (hF:FT p m md l) (hF1:FT p m1 md1 l1) (r:El (p^m) (opsT p m l) (fld_of hF)):Prop where
 root:Es (fld_of hF) r m1 md1+pwr r m1=0
end
section
variable {p m m1:Nat} {l l1 md md1:LN} {hF:FT p m md l} {hF1:FT p m1 md1 l1} {r:El (p^m) (opsT p m l) (fld_of hF)}
def im(hF:FT p m md l)(m1:Nat)(r:El (p^m) (opsT p m l) (fld_of hF))(x:Nat):El (p^m) (opsT p m l) (fld_of hF):=Es (fld_of hF) r m1 (digs p m1 x)
end
end Al
namespace Al
def ns:Nat->(Nat->Nat)->Nat
 |0,_=>0
 |n+1,f=>ns n f+f n
theorem ns_congr{n:Nat}{f g:Nat->Nat}(h:∀j,j<n->f j=g j):ns n f=ns n g:=by
 induction n with
 |zero=>rfl
 |succ n ih=>show ns n f+f n=ns n g+g n;rw[ih fun j hj=>h j U0,h n U0]
theorem ns_le{n:Nat}{f g:Nat->Nat}(h:∀j,j<n->f j<=g j):ns n f<=ns n g:=by
 induction n with
 |zero=>exact Nat.le_refl _
 |succ n ih=>exact Nat.add_le_add (ih fun j hj=>h j U0) (h n U0)
theorem ns_add(n:Nat)(f g:Nat->Nat):ns n (fun j=>f j+g j)=ns n f+ns n g:=by
 induction n with
 |zero=>rfl
 |succ n ih=>show ns n (fun j=>f j+g j)+(f n+g n)=(ns n f+f n)+(ns n g+g n);omega
theorem ns_zero{n:Nat}{f:Nat->Nat}(h:∀j,j<n->f j=0):ns n f=0:=by
 induction n with
 |zero=>rfl
 |succ n ih=>show ns n f+f n=0;rw[ih fun j hj=>h j U0,h n U0]
theorem ns_eq_zero{n:Nat}{f:Nat->Nat}(h:ns n f=0):∀j,j<n->f j=0:=by
 induction n with
 |zero=>intro j b;omega
 |succ n ih=>
  have c:ns n f+f n=0:=h;intro j b;by_cases e:j=n
  . subst e;omega
  . exact ih U0 j U0
theorem ns_swap(n m:Nat)(f:Nat->Nat->Nat):ns n (fun j=>ns m (fun i=>f i j))=ns m (fun i=>ns n (fun j=>f i j)):=by
 induction m with
 |zero=>exact ns_zero fun _ _=>rfl
 |succ m ih=>show ns n (fun j=>ns m (fun i=>f i j)+f m j)=ns m (fun i=>ns n (fun j=>f i j))+ns n (fun j=>f m j);rw[ns_add,ih]
theorem ns_front(n:Nat)(f:Nat->Nat):ns (n+1) f=f 0+ns n (fun j=>f (j+1)):=by
 induction n with
 |zero=>show 0+f 0=f 0+0;omega
 |succ n ih=>show ns (n+1) f+f (n+1)=f 0+(ns n (fun j=>f (j+1))+f (n+1));omega
theorem ns_at{n i:Nat}{f:Nat->Nat}(b:i<n):f i<=ns n f:=by
 induction n with
 |zero=>omega
 |succ n ih=>
  show f i<=ns n f+f n;by_cases e:i=n
  . subst e;omega
  . have:=ih U0;omega
section
variable {q:Nat} {O:Ops} {h:Fld q O}
def wf(n:Nat)(f:Nat->El q O h):Nat:=ns n fun j=>if(f j).n=0 then 0 else 1
theorem El.n_zero{x:El q O h}:x.n=0 ↔ x=0:=⟨fun e=>El.eq e,fun e=>by rw[e];rfl⟩
theorem qcW{n:Nat}{f:Nat->El q O h}(b:∀j,j<n->f j=0):wf n f=0:=ns_zero fun j hj=>by rw[if_pos (El.n_zero.2 (b j hj))]
theorem wf_eq_zero{n:Nat}{f:Nat->El q O h}(c:wf n f=0):∀j,j<n->f j=0:=fun j hj=>by
 have b:=ns_eq_zero c j hj
 refine El.n_zero.1 (Classical.byContradiction fun hne=>?_)
 rw[if_neg hne] at b
 omega
theorem wf_congr{n:Nat}{f g:Nat->El q O h}(b:∀j,j<n->f j=g j):wf n f=wf n g:=ns_congr fun j hj=>by rw[b j hj]
theorem wf_wt:∀ {w:LN},(∀ x∈w,x<q)->wf w.length (wd h w)=Dv.wt w
 |[],_=>rfl
 |x :: r,hw=>by
   have ih:=wf_wt (w:=r) fun y hy=>hw y (List.mem_cons_of_mem _ hy)
   unfold wf
   rw[List.length_cons,ns_front]
   have b:(wd h (x :: r) 0).n=x:=El.of_n (hw x List.mem_cons_self)
   show(if(wd h (x :: r) 0).n=0 then 0 else 1)+wf r.length (wd h r)=_
   rw[b,ih]
   rfl
def InC(h:Fld q O)(n:Nat)(G:LL)(f:Nat->El q O h):Prop:=∃c:Nat->El q O h,∀j,j<n->f j=sm G.length fun i=>c i*wd h (G.getD i []) j
theorem inC_lin(n:Nat)(G:LL):LinF q O h (InC h n G) where
 zero:=⟨fun _=>0,fun j _=>((El.fd (h:=h)).sm_zero fun i _=>(El.fd (h:=h)).zmul _).symm⟩
 step f g a hf hg:=by
  have H:=El.fd (h:=h)
  obtain⟨c,b⟩:=hf
  obtain⟨d,hd⟩:=hg
  refine⟨fun i=>c i+a*d i,fun j hj=>?_⟩
  show f j+a*g j=_
  rw[b j hj,hd j hj,<- H.sm_lin]
  refine H.sm_congr fun i _=>?_
  show _=(c i+a*d i)*_
  rw[H.rdist,H.mulA]
theorem InC.row{n:Nat}{G:LL}{i:Nat}(b:i<G.length):InC h n G (wd h (G.getD i [])):=by have H:=El.fd (h:=h);refine⟨fun k=>if k=i then 1 else 0,fun _ _=>?_⟩;rw[H.sm_one (i:=i) b fun k _ hk=>by show(if k=i then(1:El q O h) else 0)*_=0;rw[if_neg hk,H.zmul]];show _=(if i=i then(1:El q O h) else 0)*_;rw[if_pos rfl,H.mulU]
theorem InC.mem{n:Nat}{G:LL}{r:LN}(c:r∈G):InC h n G (wd h r):=by obtain⟨i,b,rfl⟩:=List.mem_iff_getElem.1 c;have:=InC.row (h:=h) (n:=n) b;rwa [show G.getD i []=G[i] by simp[List.getD,b]] at this
theorem wd_comb{n:Nat}:∀ (rows:LL)(msg out:LN),(∀ r∈rows,Dv.Ok q n r)->msg.length=rows.length->(∀ x∈msg,x<q)->Dv.Ok q n out ->
 ∀j,wd h (Dv.combO O out msg rows) j=wd h out j+sm rows.length fun i=>El.of h (msg.getD i 0)*wd h (rows.getD i []) j
 |[],[],out,_,_,_,_,j=>((El.fd (h:=h)).zadd _).symm
 |[],_ :: _,_,_,hl,_,_,_=>by simp at hl
 |_ :: _,[],_,_,hl,_,_,_=>by simp at hl
 |r :: rs,x :: xs,out,hr,hl,hm,ho,j=>by
   have H:=El.fd (h:=h)
   obtain⟨k,l⟩:=hr r List.mem_cons_self
   have g:=hm x List.mem_cons_self
   have c:=fun y hy=>hr y (List.mem_cons_of_mem _ hy)
   have d:=fun y hy=>hm y (List.mem_cons_of_mem _ hy)
   have b:xs.length=rs.length:=by simpa using hl
   rw[List.length_cons,qdH]
   show wd h (Dv.combO O out (x :: xs) (r :: rs)) j=wd h out j+(El.of h x*wd h r j+sm rs.length fun i=>El.of h (xs.getD i 0)*wd h (rs.getD i []) j)
   unfold Dv.combO
   by_cases f:x=0
   . rw[if_pos f,wd_comb rs xs out c b d ho j,f,El.of_zero,H.zmul,H.addZ]
   . rw[if_neg f,wd_comb rs xs _ c b d ⟨by unfold Pln.addRow;rw[List.length_zipWith,ho.1,k,Nat.min_self],(qdB h.self g ho.2 l).2⟩ j,wd_addRow g ho.2 l (by rw[ho.1,k]),H.addA]
def MinW(h:Fld q O)(n:Nat)(G:LL)(low:Nat):Prop:=∀f,InC h n G f->(∀j,j<n->f j=0)\/low<=wf n f
theorem comb_ok(h:Fld q O){n:Nat}{rows:LL}:∀(msg out:LN),(∀r∈rows,Dv.Ok q n r)->(∀x∈msg,x<q)->Dv.Ok q n out->Dv.Ok q n (Dv.combO O out msg rows):=fun msg out hr hm ho=>
 (LinF.comb (h:=h) (Q:=fun _=>True) ⟨trivial,fun _ _ _ _ _=>trivial⟩ (fun r hm=>⟨hr r hm,trivial⟩) msg out hm ho trivial).2
theorem minW_of{n low:Nat}{G:LL}(u:∀r∈G,Dv.Ok q n r)(v:∀msg:LN,msg.length=G.length->(∀x∈msg,x<q)->Dv.wt (Dv.combO O (List.replicate n 0) msg G)=0\/low<=Dv.wt (Dv.combO O (List.replicate n 0) msg G)):MinW h n G low:=by
 have H:=El.fd (h:=h);rintro f ⟨c,hc⟩;have t:=h.q1;have m:Dv.Ok q n (List.replicate n 0):=Dv.zeros_ok U0;have d:((List.range G.length).map fun i=>(c i).n).length=G.length:=U2;have b:∀x∈(List.range G.length).map fun i=>(c i).n,x<q:=fun x hx=>by obtain⟨i,_,rfl⟩:=List.mem_map.1 hx;exact(c i).lt
 have l:=wd_comb (h:=h) G _ _ u d b m;obtain⟨p,s⟩:=comb_ok h (rows:=G) _ _ u b m;have k:∀i,i<G.length->El.of h (((List.range G.length).map fun i=>(c i).n).getD i 0)=c i:=fun i hi=>by
  have:((List.range G.length).map fun i=>(c i).n).getD i 0=(c i).n:=by simp[List.getD,hi]
  rw[this];exact El.eq (El.of_n (c i).lt)
 have g:=v _ d b;generalize (List.range G.length).map (fun i=>(c i).n)=msg at *;have o:∀j,j<n->wd h (Dv.combO O (List.replicate n 0) msg G) j=f j:=fun j hj=>by rw[l j,qeH,H.addZ,hc j hj];refine H.sm_congr fun i hi=>?_;rw[k i hi]
 have e:Dv.wt (Dv.combO O (List.replicate n 0) msg G)=wf n f:=by rw[<- wf_wt (h:=h) s,p];exact wf_congr o
 rw[e] at g;rcases g with h1|h1
 . exact .inl (wf_eq_zero h1)
 . exact .inr h1
end
end Al
end Go.Proofs.YtkcdlealipfnbaaGreat
namespace Go.Proofs.YtkcdlealipfnbaaGreat
open Go.RowKit Pln Go.Proofs.Tryz
theorem premises_1(w:Wo):zC 16 #[Y 1] w fun e w'=>e=.returned (Y 0)/\w=w':=by go_enter func16,ntmps16;go_wp2;go_ret;exact⟨rfl,rfl⟩
theorem premises_15(w:Wo):zC 16 #[Y 15] w fun e w'=>e=.returned (Y 0)/\w=w':=by go_enter func16,ntmps16;go_wp2;go_ret;exact⟨rfl,rfl⟩
theorem infoStep:(prog.info? 40).map (fun i=>(i.zero,i.size,i.bytes))=some (some (.agg #[Y 0,Y 0,Y 0,zL none 0 0,Y 0,zL none 0 0,Y 0,zL none 0 0,zL none 0 0,Y 0,Y 0,zL none 0 0,Y 0,Y 0,Y 0,Y 0,Y 0,zL none 0 0,zL none 0 0,zL none 0 0,zL none 0 0,Y 0,zL none 0 0]),23,344):=U1
theorem wpList_appD{P:Program}{b:Array Oper}{rest:List Oper}{o:Oper}{a:Act}{w:Wo}{Q:Exit->Act->Wo->Prop}(c:o.guard=none)(s x:Operand)(t:TypeId)(d:o.op=.call { callee:=.builtin .append,args:=#[s,x],argTypes:=#[t,t] }){v1 v2 v:Value}{w':Wo}(g:a.eval s=v1)(i:a.eval x=v2)(f:(Builtin.append_ #[t,t] o.type #[v1,v2]).run P w=.ok v w')(h:wpList P b Q rest (a.put o.dst v) w'):wpList P b Q (o :: rest) a w:=
 wpList_plain c fun K hK=>by
  unfold Oper.wp execOp
  simp only[d,resolve,invoke,builtin,Sem.run_bind,Sem.run_pure,Result.andThen_ok,List.map_toArray,List.map_cons,List.map_nil,g,i,f]
  exact hK _ _ h
theorem cells23:∀{cp:List Value},cp.length=23->∃x0 x1 x2 x3 x4 x5 x6 x7 x8 x9 x10 x11 x12 x13 x14 x15 x16 x17 x18 x19 x20 x21 x22:Value,cp=[x0,x1,x2,x3,x4,x5,x6,x7,x8,x9,x10,x11,x12,x13,x14,x15,x16,x17,x18,x19,x20,x21,x22]
 |[x0,x1,x2,x3,x4,x5,x6,x7,x8,x9,x10,x11,x12,x13,x14,x15,x16,x17,x18,x19,x20,x21,x22],_=>⟨x0,x1,x2,x3,x4,x5,x6,x7,x8,x9,x10,x11,x12,x13,x14,x15,x16,x17,x18,x19,x20,x21,x22,rfl⟩
end Go.Proofs.YtkcdlealipfnbaaGreat
namespace Go.Proofs.YtkcdlealipfnbaaGreat
open Go.RowKit Pln
structure BoxG (w:Wo) (a r:List Value) (W:Wo):Prop where
 below:zB w W
 size:w.heap.size+1<W.heap.size
 k0:W.heap[w.heap.size]?=some (.cells a.toArray 87 (0,0))
 k1:W.heap[w.heap.size+1]?=some (.cells r.toArray 32 (0,0))
end Go.Proofs.YtkcdlealipfnbaaGreat
