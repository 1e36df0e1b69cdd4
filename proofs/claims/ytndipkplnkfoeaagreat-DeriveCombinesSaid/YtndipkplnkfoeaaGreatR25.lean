/- Parts of the proof. -/
import Derived.Test.YtndipkplnkfoeaaGreatR23
set_option maxRecDepth 100000
set_option maxHeartbeats 8000000
namespace Go.Proofs.YtndipkplnkfoeaaGreat
open Pln
namespace Al
def ns:Nat->(Nat->Nat)->Nat
 |0,_=>0
 |n+1,f=>ns n f+f n
theorem ns_congr{n:Nat}{f g:Nat->Nat}(h:∀j,j<n->f j=g j):ns n f=ns n g:=by
 induction n with
 |zero=>rfl
 |succ n ih=>show ns n f+f n=ns n g+g n;rw[ih fun j hj=>h j U0,h n U0]
theorem ns_le{n:Nat}{f g:Nat->Nat}(h:∀j,j<n->f j<=g j):ns n f<=ns n g:=by
 induction n with
 |zero=>exact Nat.le_refl _
 |succ n ih=>exact Nat.add_le_add (ih fun j hj=>h j U0) (h n U0)
theorem ns_add(n:Nat)(f g:Nat->Nat):ns n (fun j=>f j+g j)=ns n f+ns n g:=by
 induction n with
 |zero=>rfl
 |succ n ih=>show ns n (fun j=>f j+g j)+(f n+g n)=(ns n f+f n)+(ns n g+g n);omega
theorem ns_mul(n a:Nat)(f:Nat->Nat):ns n (fun j=>a*f j)=a*ns n f:=by
 induction n with
 |zero=>rfl
 |succ n ih=>show ns n (fun j=>a*f j)+a*f n=a*(ns n f+f n);rw[ih,Nat.mul_add]
theorem ns_zero{n:Nat}{f:Nat->Nat}(h:∀j,j<n->f j=0):ns n f=0:=by
 induction n with
 |zero=>rfl
 |succ n ih=>show ns n f+f n=0;rw[ih fun j hj=>h j U0,h n U0]
theorem ns_eq_zero{n:Nat}{f:Nat->Nat}(h:ns n f=0):∀j,j<n->f j=0:=by
 induction n with
 |zero=>intro j b;omega
 |succ n ih=>
  have c:ns n f+f n=0:=h;intro j b;by_cases e:j=n
  . subst e;omega
  . exact ih U0 j U0
theorem ns_swap(n m:Nat)(f:Nat->Nat->Nat):ns n (fun j=>ns m (fun i=>f i j))=ns m (fun i=>ns n (fun j=>f i j)):=by
 induction m with
 |zero=>exact ns_zero fun _ _=>rfl
 |succ m ih=>show ns n (fun j=>ns m (fun i=>f i j)+f m j)=ns m (fun i=>ns n (fun j=>f i j))+ns n (fun j=>f m j);rw[ns_add,ih]
theorem ns_split(n m:Nat)(f:Nat->Nat):ns (n+m) f=ns n f+ns m (fun j=>f (n+j)):=by
 induction m with
 |zero=>rfl
 |succ m ih=>show ns (n+m) f+f (n+m)=ns n f+(ns m (fun j=>f (n+j))+f (n+m));omega
theorem ns_blocks(n m:Nat)(f:Nat->Nat):ns (n*m) f=ns n (fun i=>ns m (fun j=>f (i*m+j))):=by
 induction n with
 |zero=>rw[Nat.zero_mul];rfl
 |succ n ih=>rw[Nat.succ_mul,ns_split,ih];rfl
theorem ns_front(n:Nat)(f:Nat->Nat):ns (n+1) f=f 0+ns n (fun j=>f (j+1)):=by
 induction n with
 |zero=>show 0+f 0=f 0+0;omega
 |succ n ih=>show ns (n+1) f+f (n+1)=f 0+(ns n (fun j=>f (j+1))+f (n+1));omega
section
variable {q:Nat} {O:Ops} {h:Fld q O}
def wf(n:Nat)(f:Nat->El q O h):Nat:=ns n fun j=>if(f j).n=0 then 0 else 1
theorem El.n_zero{x:El q O h}:x.n=0 ↔ x=0:=⟨fun e=>El.eq e,fun e=>by rw[e];rfl⟩
theorem qcW{n:Nat}{f:Nat->El q O h}(b:∀j,j<n->f j=0):wf n f=0:=ns_zero fun j hj=>by rw[if_pos (El.n_zero.2 (b j hj))]
theorem wf_eq_zero{n:Nat}{f:Nat->El q O h}(c:wf n f=0):∀j,j<n->f j=0:=fun j hj=>by
 have b:=ns_eq_zero c j hj
 refine El.n_zero.1 (Classical.byContradiction fun hne=>?_)
 rw[if_neg hne] at b
 omega
theorem wf_congr{n:Nat}{f g:Nat->El q O h}(b:∀j,j<n->f j=g j):wf n f=wf n g:=ns_congr fun j hj=>by rw[b j hj]
theorem wf_split(n m:Nat)(f:Nat->El q O h):wf (n+m) f=wf n f+wf m (fun j=>f (n+j)):=ns_split n m _
theorem wf_blocks(n m:Nat)(f:Nat->El q O h):wf (n*m) f=ns n (fun i=>wf m (fun j=>f (i*m+j))):=ns_blocks n m _
theorem wf_wt:∀ {w:List Nat},(∀ x∈w,x<q)->wf w.length (wd h w)=Dv.wt w
 |[],_=>rfl
 |x :: r,hw=>by
   have ih:=wf_wt (w:=r) fun y hy=>hw y (List.mem_cons_of_mem _ hy)
   unfold wf
   rw[List.length_cons,ns_front]
   have b:(wd h (x :: r) 0).n=x:=El.of_n (hw x List.mem_cons_self)
   show(if(wd h (x :: r) 0).n=0 then 0 else 1)+wf r.length (wd h r)=_
   rw[b,ih]
   rfl
def InC(h:Fld q O)(n:Nat)(G:List (List Nat))(f:Nat->El q O h):Prop:=∃c:Nat->El q O h,∀j,j<n->f j=sm G.length fun i=>c i*wd h (G.getD i []) j
theorem inC_lin(n:Nat)(G:List (List Nat)):LinF q O h (InC h n G) where
 zero:=⟨fun _=>0,fun j _=>((El.fd (h:=h)).sm_zero fun i _=>(El.fd (h:=h)).zmul _).symm⟩
 step f g a hf hg:=by
  have H:=El.fd (h:=h)
  obtain⟨c,b⟩:=hf
  obtain⟨d,hd⟩:=hg
  refine⟨fun i=>c i+a*d i,fun j hj=>?_⟩
  show f j+a*g j=_
  rw[b j hj,hd j hj,<- H.sm_lin]
  refine H.sm_congr fun i _=>?_
  show _=(c i+a*d i)*_
  rw[H.rdist,H.mulA]
theorem InC.congr{n:Nat}{G:List (List Nat)}{f g:Nat->El q O h}(i:InC h n G f)(d:∀j,j<n->f j=g j):InC h n G g:=by obtain⟨c,b⟩:=i;exact⟨c,fun j hj=>by rw[<- d j hj,b j hj]⟩
theorem InC.row{n:Nat}{G:List (List Nat)}{i:Nat}(b:i<G.length):InC h n G (wd h (G.getD i [])):=by have H:=El.fd (h:=h);refine⟨fun k=>if k=i then 1 else 0,fun _ _=>?_⟩;rw[H.sm_one (i:=i) b fun k _ hk=>by show(if k=i then(1:El q O h) else 0)*_=0;rw[if_neg hk,H.zmul]];show _=(if i=i then(1:El q O h) else 0)*_;rw[if_pos rfl,H.mulU]
theorem InC.mem{n:Nat}{G:List (List Nat)}{r:List Nat}(c:r∈G):InC h n G (wd h r):=by obtain⟨i,b,rfl⟩:=List.mem_iff_getElem.1 c;have:=InC.row (h:=h) (n:=n) b;rwa [show G.getD i []=G[i] by simp[List.getD,b]] at this
theorem InC.mul{n:Nat}{G:List (List Nat)}{f:Nat->El q O h}(a:El q O h)(b:InC h n G f):InC h n G fun j=>a*f j:=
 ((inC_lin n G).step _ _ a (inC_lin n G).zero b).congr fun _ _=>(El.fd (h:=h)).addZ _
theorem InC.add{n:Nat}{G:List (List Nat)}{f g:Nat->El q O h}(b:InC h n G f)(c:InC h n G g):InC h n G fun j=>f j+g j :=
 ((inC_lin n G).step _ _ 1 b c).congr fun j _=>by
   show f j+1*g j=_
   rw[(El.fd (h:=h)).mulU]
theorem InC.neg{n:Nat}{G:List (List Nat)}{f:Nat->El q O h}(b:InC h n G f):InC h n G fun j=>-f j :=
 (b.mul (-1)).congr fun j _=>by
   show -1*f j=_
   rw[(El.fd (h:=h)).negm,(El.fd (h:=h)).mulU]
theorem wd_comb{n:Nat}:∀ (rows:List (List Nat)) (msg out:List Nat),(∀ r∈rows,Dv.Ok q n r)->msg.length=rows.length->(∀ x∈msg,x<q)->Dv.Ok q n out ->
 ∀j,wd h (Dv.combO O out msg rows) j=wd h out j+sm rows.length fun i=>El.of h (msg.getD i 0)*wd h (rows.getD i []) j
 |[],[],out,_,_,_,_,j=>((El.fd (h:=h)).zadd _).symm
 |[],_ :: _,_,_,hl,_,_,_=>by simp at hl
 |_ :: _,[],_,_,hl,_,_,_=>by simp at hl
 |r :: rs,x :: xs,out,hr,hl,hm,ho,j=>by
   have H:=El.fd (h:=h)
   obtain⟨k,l⟩:=hr r List.mem_cons_self
   have g:=hm x List.mem_cons_self
   have c:∀r∈rs,Dv.Ok q n r:=fun y hy=>hr y (List.mem_cons_of_mem _ hy)
   have d:∀y∈xs,y<q:=fun y hy=>hm y (List.mem_cons_of_mem _ hy)
   have b:xs.length=rs.length:=by simpa using hl
   rw[List.length_cons,qdH]
   show wd h (Dv.combO O out (x :: xs) (r :: rs)) j=wd h out j+(El.of h x*wd h r j+sm rs.length fun i=>El.of h (xs.getD i 0)*wd h (rs.getD i []) j)
   unfold Dv.combO
   by_cases f:x=0
   . rw[if_pos f,wd_comb rs xs out c b d ho j,f,El.of_zero,H.zmul,H.addZ]
   . rw[if_neg f,wd_comb rs xs _ c b d ⟨by unfold Pln.addRow;rw[List.length_zipWith,ho.1,k,Nat.min_self],(qdB h.self g ho.2 l).2⟩ j,wd_addRow g ho.2 l (by rw[ho.1,k]),H.addA]
def MinW(h:Fld q O)(n:Nat)(G:List (List Nat))(low:Nat):Prop:=∀f,InC h n G f->(∀j,j<n->f j=0)\/low<=wf n f
theorem comb_ok(h:Fld q O){n:Nat}{rows:List (List Nat)}:∀(msg out:List Nat),(∀r∈rows,Dv.Ok q n r)->(∀x∈msg,x<q)->Dv.Ok q n out->Dv.Ok q n (Dv.combO O out msg rows):=fun msg out hr hm ho=>
 (LinF.comb (h:=h) (Q:=fun _=>True) ⟨trivial,fun _ _ _ _ _=>trivial⟩ (fun r hm=>⟨hr r hm,trivial⟩) msg out hm ho trivial).2
theorem minW_of{n low:Nat}{G:List (List Nat)}(u:∀r∈G,Dv.Ok q n r)(v:∀msg:List Nat,msg.length=G.length->(∀x∈msg,x<q)->Dv.wt (Dv.combO O (List.replicate n 0) msg G)=0\/low<=Dv.wt (Dv.combO O (List.replicate n 0) msg G)):MinW h n G low:=by
 have H:=El.fd (h:=h);rintro f ⟨c,hc⟩;have t:=h.q1;have m:Dv.Ok q n (List.replicate n 0):=Dv.zeros_ok U0;have d:((List.range G.length).map fun i=>(c i).n).length=G.length:=U2;have b:∀x∈(List.range G.length).map fun i=>(c i).n,x<q:=fun x hx=>by obtain⟨i,_,rfl⟩:=List.mem_map.1 hx;exact(c i).lt
 have l:=wd_comb (h:=h) G _ _ u d b m;obtain⟨p,s⟩:=comb_ok h (rows:=G) _ _ u b m;have k:∀i,i<G.length->El.of h (((List.range G.length).map fun i=>(c i).n).getD i 0)=c i:=fun i hi=>by
  have:((List.range G.length).map fun i=>(c i).n).getD i 0=(c i).n:=by simp[List.getD,hi]
  rw[this];exact El.eq (El.of_n (c i).lt)
 have g:=v _ d b;generalize (List.range G.length).map (fun i=>(c i).n)=msg at *;have o:∀j,j<n->wd h (Dv.combO O (List.replicate n 0) msg G) j=f j:=fun j hj=>by rw[l j,qeH,H.addZ,hc j hj];refine H.sm_congr fun i hi=>?_;rw[k i hi]
 have e:Dv.wt (Dv.combO O (List.replicate n 0) msg G)=wf n f:=by rw[<- wf_wt (h:=h) s,p];exact wf_congr o
 rw[e] at g;rcases g with h1|h1
 . exact .inl (wf_eq_zero h1)
 . exact .inr h1
end
end Al
namespace Al
section
variable {q:Nat} {O:Ops} {h:Fld q O}
theorem Fd.sub_step{K:Type}[Add K][Mul K][Neg K][Zero K][One K](H:Fd K)(x y z u a:K):(x+a*y)+-(z+a*u)=(x+-z)+a*(y+-u):=by
 have b:-(z+a*u)=-z+a*-u:=by refine(H.negu ?_).symm;rw[H.mneg,H.addA,<- H.addA (a*u),H.addC (a*u),H.addA,H.addN,H.zadd,H.addN]
 rw[b,H.dist];have c:Std.Associative (α:=K) (·+·):=⟨H.addA⟩;have d:Std.Commutative (α:=K) (·+·):=⟨H.addC⟩;ac_rfl
def QSum(h:Fld q O)(n1 n2:Nat)(A B:List (List Nat))(f:Nat->El q O h):Prop:=InC h n1 A f/\InC h n2 B fun j=>f (n1+j)
theorem qSum_lin(b c:Nat)(A B:List (List Nat)):LinF q O h (QSum h b c A B) where
 zero:=⟨(inC_lin b A).zero,(inC_lin c B).zero⟩
 step f g a hf hg:=⟨(inC_lin b A).step f g a hf.1 hg.1,(inC_lin c B).step _ _ a hf.2 hg.2⟩
theorem sum_law{b c g lb:Nat}{A B:List (List Nat)}(i:MinW h b A g)(j:MinW h c B lb){f:Nat->El q O h}(d:QSum h b c A B f):wf (b+c) f=0\/min g lb<=wf (b+c) f:=by
 rw[wf_split];rcases i _ d.1 with h1|h1
 . rw[qcW h1];rcases j _ d.2 with h2|h2
   . rw[qcW h2];exact .inl rfl
   . right;omega
 . right;omega
theorem qcT{u v:List Nat}{j:Nat}(b:j<u.length):wd h (u++v) j=wd h u j:=by unfold wd;congr 1;simp only[List.getD];rw[List.getElem?_append_left b]
theorem wd_app_r{u v:List Nat}(j:Nat):wd h (u++v) (u.length+j)=wd h v j:=by unfold wd;congr 1;simp only[List.getD];rw[List.getElem?_append_right U0,Nat.add_sub_cancel_left]
def QPlo(h:Fld q O)(n:Nat)(A B:List (List Nat))(f:Nat->El q O h):Prop:=InC h n A f/\InC h n B fun j=>f (n+j)+-f j
theorem qPlo_lin(n:Nat)(A B:List (List Nat)):LinF q O h (QPlo h n A B) where
 zero:=⟨(inC_lin n A).zero,(inC_lin n B).zero.congr fun _ _=>((El.fd (h:=h)).addN 0).symm⟩
 step f g a hf hg:=⟨(inC_lin n A).step f g a hf.1 hg.1,((inC_lin n B).step _ _ a hf.2 hg.2).congr fun _ _=>((El.fd (h:=h)).sub_step _ _ _ _ _).symm⟩
theorem plotkin_law{n g lb:Nat}{A B:List (List Nat)}(i:MinW h n A g)(k:MinW h n B lb){f:Nat->El q O h}(d:QPlo h n A B f):wf (n+n) f=0\/min (2*g) lb<=wf (n+n) f:=by
 have H:=El.fd (h:=h);rw[wf_split];rcases k _ d.2 with h2|h2
 . have e : wf n (fun j=>f (n + j)) = wf n f:=wf_congr fun j hj=>H.subz (h2 j hj);rw[e];rcases i _ d.1 with h1|h1
   . rw[qcW h1];exact .inl rfl
   . right;omega
 . right;have e:wf n (fun j=>f (n+j)+-f j)<=wf n f+wf n fun j=>f (n+j):=by
    unfold wf;rw[<- ns_add];refine ns_le fun j _=>?_;by_cases b:(f j).n=0
    . by_cases c : (f (n + j)).n = 0
      . have:(f (n+j)+-f j).n=0:=El.n_zero.2 (by rw[El.n_zero.1 b,El.n_zero.1 c,H.addN]);rw[if_pos this];omega
      . rw[if_neg c];split<;>(try split)<;>omega
    . rw[if_neg b];split<;>(try split)<;>omega
   omega
def QPro(h:Fld q O)(n1 n2:Nat)(A B:List (List Nat))(f:Nat->El q O h):Prop:=(∀i,i<n1->InC h n2 B fun j=>f (i*n2+j))/\∀j,j<n2->InC h n1 A fun i=>f (i*n2+j)
theorem qPro_lin(b c:Nat)(A B:List (List Nat)):LinF q O h (QPro h b c A B) where
 zero:=⟨fun _ _=>(inC_lin c B).zero,fun _ _=>(inC_lin b A).zero⟩
 step _ _ a hf hg:=⟨fun i hi=>(inC_lin c B).step _ _ a (hf.1 i hi) (hg.1 i hi),fun j hj=>(inC_lin b A).step _ _ a (hf.2 j hj) (hg.2 j hj)⟩
theorem product_law{p o r lb:Nat}{A B:List (List Nat)}(t:MinW h p A r)(u:MinW h o B lb){f:Nat->El q O h}(s:QPro h p o A B f):wf (p*o) f=0\/r*lb<=wf (p*o) f:=by
 rw[wf_blocks];by_cases l:∀i,i<p->∀j,j<o->f (i*o+j)=0
 . left;exact ns_zero fun i hi=>qcW (l i hi)
 . right;obtain⟨d,b,k⟩:∃i,i<p/\¬∀j,j<o->f (i*o+j)=0:=Classical.byContradiction fun hno=>l fun i hi=>Classical.byContradiction fun h2=>hno ⟨i,hi,h2⟩;have m:lb<=wf o fun j=>f (d*o+j):=(s.1 d b).elim fun c hc=>(u _ ⟨c,hc⟩).resolve_left k;(have e:ns p (fun i=>wf o fun j=>f (i*o+j))=ns o fun j=>wf p fun i=>f (i*o+j):=by unfold wf;exact(ns_swap o p fun i j=>if(f (i*o+j)).n=0 then 0 else 1).symm);rw[e];refine Nat.le_trans (Nat.mul_le_mul_left r m) ?_;unfold wf;rw[<- ns_mul];refine ns_le fun j hj=>?_;by_cases g:(f (d*o+j)).n=0
   . rw[if_pos g];exact Nat.zero_le _
   . rw[if_neg g,Nat.mul_one];refine(t _ (s.2 j hj)).resolve_left fun hall=>g (El.n_zero.2 (hall d b))
theorem unit_coef{n:Nat}{G:List (List Nat)}{piv:List Nat}(d:∀i k,i<G.length->k<G.length->at2 G i (piv.getD k 0)=if i=k then 1 else 0)(l:∀k,k<G.length->piv.getD k 0<n){c f:Nat->El q O h}(g:∀j,j<n->f j=sm G.length fun i=>c i*wd h (G.getD i []) j){k:Nat}(b:k<G.length):f (piv.getD k 0)=c k:=by have H:=El.fd (h:=h);rw[g _ (l k b),H.sm_one (i:=k) b fun i hi hne=>by rw[<- qcJ,d i k hi b,if_neg hne,El.of_zero,H.mulZ],<- qcJ,d k k b b,if_pos rfl,El.of_one,H.umul]
theorem piv_zero{n:Nat}{G:List (List Nat)}{piv:List Nat}(m:∀i k,i<G.length->k<G.length->at2 G i (piv.getD k 0)=if i=k then 1 else 0)(l:∀k,k<G.length->piv.getD k 0<n){f:Nat->El q O h}(g:InC h n G f)(o:∀k,k<G.length->f (piv.getD k 0)=0):∀j,j<n->f j=0:=by have H:=El.fd (h:=h);obtain⟨c,b⟩:=g;intro j d;rw[b j d];exact H.sm_zero fun i hi=>by rw[<- unit_coef m l b hi,o i hi,H.zmul]
def QX(h:Fld q O)(n m:Nat)(A B T:List (List Nat))(own pos:List Nat)(f:Nat->El q O h):Prop:=
 InC h n A f/\∃y:Nat->El q O h,(InC h n B fun j=>f j+-y j)/\(∀p∈own,y p=0)/\∀j,j<m->f (n+j)=sm T.length fun i=>y (pos.getD i 0)*wd h (T.getD i []) j
theorem qX_lin(n m:Nat)(A B T:List (List Nat))(own t:List Nat):LinF q O h (QX h n m A B T own t) where
 zero:=⟨(inC_lin n A).zero,fun _=>0,(inC_lin n B).zero.congr fun _ _=>((El.fd (h:=h)).addN 0).symm,fun _ _=>rfl,fun _ _=>((El.fd (h:=h)).sm_zero fun _ _=>(El.fd (h:=h)).zmul _).symm⟩
 step f g a hf hg:=by
  have H:=El.fd (h:=h)
  obtain⟨b,y,c,d,k⟩:=hf
  obtain⟨l,z,o,r,s⟩:=hg
  refine⟨(inC_lin n A).step f g a b l,fun j=>y j+a*z j,((inC_lin n B).step _ _ a c o).congr fun _ _=>(H.sub_step _ _ _ _ _).symm,fun p hp=>?_,fun j hj=>?_⟩
  . show y p + a * z p = 0
    rw[d p hp,r p hp,H.mulZ,H.addZ]
  . show f (n + j) + a * g (n + j) = _
    rw[k j hj,s j hj,<- H.sm_lin]
    refine H.sm_congr fun i _=>?_
    show _=(y _+a*z _)*_
    rw[H.rdist,H.mulA]
theorem x_law{n m Q lb lt:Nat}{A B T:List (List Nat)}{pa M S K:List Nat}(uA:∀ i k,i<A.length->k<A.length->at2 A i (pa.getD k 0)=if i=k then 1 else 0)(Z:∀ k,k<A.length->pa.getD k 0<n)(uB:∀ i k,i<B.length->k<B.length->at2 B i (M.getD k 0)=if i=k then 1 else 0)(pB:∀ k,k<B.length->M.getD k 0<n)(lB:M.length=B.length)(uT:∀ i k,i<T.length->k<T.length->at2 T i (S.getD k 0)=if i=k then 1 else 0)(R:∀ k,k<T.length->S.getD k 0<m)(N:∀ r∈B,InC h n A (wd h r))(P:∀ i,i<T.length->K.getD i 0<n)(L:∀ k,k<A.length->pa.getD k 0∈M\/∃ i,i<T.length/\K.getD i 0=pa.getD k 0)(U:MinW h n A Q)(V:MinW h n B lb)(W:MinW h m T lt){f:Nat->El q O h}(X:QX h n m A B T M K f):wf (n+m) f=0\/min lb (Q+lt)<=wf (n+m) f:=by
 have H:=El.fd (h:=h);obtain⟨C,y,l,D,o⟩:=X;have p:∀g,InC h n B g->InC h n A g:=fun g ⟨c,hc⟩=>by
  have z:∀k,k<=B.length->InC h n A fun j=>sm k fun i=>c i*wd h (B.getD i []) j:=by
   intro k;induction k with
   |zero=>exact fun _=>(inC_lin n A).zero
   |succ k ih=>exact fun hk=>(inC_lin n A).step _ _ (c k) (ih U0) (N _ (mem_getD U0))
  exact(z B.length (Nat.le_refl _)).congr fun j hj=>(hc j hj).symm
 have s:InC h m T fun j=>f (n+j):=⟨fun i=>y (K.getD i 0),o⟩;have b:∀j,f j+-(f j+-y j)=y j:=fun j=>by
  have E:-(f j+-y j)=-f j+y j:=by refine(H.negu ?_).symm;have I:Std.Associative (α:=El q O h) (·+·):=⟨H.addA⟩;have J:Std.Commutative (α:=El q O h) (·+·):=⟨H.addC⟩;rw[show f j+-y j+(-f j+y j)=(f j+-f j)+(y j+-y j) by ac_rfl,H.addN,H.addN,H.addZ]
  rw[E,<- H.addA,H.addN,H.addZ]
 have v:InC h n A y:=(C.add (p _ l).neg).congr fun j _=>b j;rw[wf_split];rcases W _ s with ht|ht
 . (have u : ∀ i,i < T.length -> y (K.getD i 0) = 0 := fun i hi => by rw [<- unit_coef uT R o hi];exact ht _ (R i hi));have d:∀ j,j<n->y j=0:=piv_zero uA Z v fun k hk=>by
    rcases L k hk with hp|⟨i,hi,e⟩
    . exact D _ hp
    . rw[<- e];exact u i hi
   (have t:InC h n B f:=l.congr fun j hj=>by rw[d j hj,H.negz,H.zadd]);rw[qcW ht];rcases V _ t with h1|h1
   . rw[qcW h1];exact .inl rfl
   . right;omega
 . rcases U _ C with h1 | h1
   . (have x : InC h n B y := l.neg.congr fun j hj => by have:=b j;rw [h1 j hj,H.addZ] at this;rw [h1 j hj];exact this)
     have d:∀j,j<n->y j=0:=piv_zero uB pB x fun k hk=>D _ (by
      rw[getD_at U0]
      exact List.getElem_mem _)
     left
     rw[qcW h1,qcW fun j hj=>by
      show f (n+j)=0
      rw[o j hj]
      exact H.sm_zero fun i hi=>by rw[d _ (P i hi),H.zmul]]
   . right;omega
end
end Al
end Go.Proofs.YtndipkplnkfoeaaGreat
namespace Go.Proofs.YtndipkplnkfoeaaGreat
open Go.RowKit Pln
open Al (ColsOk)
def opsS(d:StD):Ops:=opsT d.p.toNat d.m.toNat (lOf d.p d.m d.mod)
def ItPost(w:World)(P:Prop)(e:Ending)(w':World):Prop:=(∃b:Bool,e=.returned (.bool b)/\(b=true->P))/\Below w.heap.size w w'
theorem qbG{d:StD}(b:formZ d=0):codeZ d.p d.m d.mod d.n d.gen=0:=by
 unfold formZ at b;split at b
 . rename_i hz;exact absurd b hz
 . rename_i hz;exact Classical.byContradiction hz
theorem form_err{d:StD}(c:formZ d=0):errC d.p d.m d.mod d.n d.gen=0:=by
 obtain⟨_,_,b⟩:=codeZ_n (qbG c);unfold spZ at b;split at b
 . rename_i he;exact absurd b he
 . rename_i he;exact Classical.byContradiction he
end Go.Proofs.YtndipkplnkfoeaaGreat
