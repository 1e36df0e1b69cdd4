/- Parts of the proof. -/
import Derived.Test.YtflejelbdlelpaaGreatR34
import Derived.Test.YtflejelbdlelpaaGreatR41
import Derived.Test.YtflejelbdlelpaaGreatR38
set_option maxRecDepth 100000
set_option maxHeartbeats 8000000
namespace Go.Proofs.YtflejelbdlelpaaGreat
open Go.RowKit Pln
open Al
theorem mix_row(O:Ops)(a:Nat):∀ {u r:LN},u.length=r.length->List.zipWith (mixF O a) u r=if a=0 then u else addRow O u a r
 |[],[],_=>by unfold addRow;split<;>rfl
 | y :: u,x :: r,h => by
   have ih:=mix_row O a (u:=u) (r:=r) (by simpa using h)
   rw[List.zipWith_cons_cons,ih]
   unfold mixF addRow
   by_cases b:a=0
   . rw[if_pos (.inl b),if_pos b,if_pos b]
   . rw[if_neg b,if_neg b,List.zipWith_cons_cons]
     congr 1
     by_cases c:x=0
     . rw[if_pos (.inr c),if_pos c]
     . rw[if_neg (fun h=>h.elim b c),if_neg c]
theorem sum_range{α:Type}(f:Nat->List α)(φ:α->Int):∀ q,(((List.range q).flatMap f).map φ).sum=zs q fun a=>((f a).map φ).sum
 |0=>rfl
 |q + 1=>by
   rw[range_snoc,List.map_append,List.sum_append,sum_range f φ q]
   rfl
theorem wl_sum{O:Ops}{q n:Nat}(φ:LN->Int):∀ (rs:LL)(u:LN),(∀ r∈rs,r.length=n)->u.length=n->((wl O q rs u).map φ).sum=sms q rs.length fun m=>φ (Dv.combO O u m rs)
 |[],u,_,_=>by simp[wl,sms,Dv.combO]
 |r :: rs,u,hr,hu=>by
   show(((List.range q).flatMap _).map φ).sum=zs q _
   rw[sum_range]
   refine qeX fun a _=>?_
   have hrl:=hr r (List.mem_cons_self ..)
   rw[wl_sum φ rs _ (fun r' h'=>hr r' (List.mem_cons_of_mem _ h')) (by rw[List.length_zipWith,hu,hrl,Nat.min_self])]
   rw[mix_row O a (by rw[hu,hrl])]
   rfl
theorem wl_mem{O:Ops}{q n:Nat}:∀ (rs:LL)(u m:LN),(∀ r∈rs,r.length=n)->u.length=n->m.length=rs.length->(∀ x∈m,x<q)->Dv.combO O u m rs∈wl O q rs u
 |[],u,[],_,_,_,_=>by simp[wl,Dv.combO]
 |[],u,_ :: _,_,_,h,_=>by simp at h
 |r :: rs,u,[],_,_,h,_=>by simp at h
 |r :: rs,u,a :: m,hr,hu,hm,hx=>by
   have hrl:=hr r (List.mem_cons_self ..)
   refine List.mem_flatMap.2 ⟨a,List.mem_range.2 (hx a (List.mem_cons_self ..)),?_⟩
   have:=wl_mem (O:=O) (q:=q) rs (List.zipWith (mixF O a) u r) m (fun r' h'=>hr r' (List.mem_cons_of_mem _ h')) (by rw[List.length_zipWith,hu,hrl,Nat.min_self]) (by simpa using hm) (fun x h=>hx x (List.mem_cons_of_mem _ h))
   rw[mix_row O a (by rw[hu,hrl])] at this
   rw[mix_row O a (by rw[hu,hrl])]
   exact this
theorem filter_sum{α:Type}(P:α->Bool):∀ L:List α,((L.filter P).length:Int)=(L.map fun u=>if P u=true then (1:Int) else 0).sum
 |[]=>rfl
 | x :: L => by
   rw[List.map_cons,List.sum_cons,<- filter_sum P L,List.filter_cons]
   by_cases h:P x=true
   . rw[if_pos h,if_pos h,List.length_cons]
     omega
   . rw[if_neg h,if_neg h,Int.zero_add]
def cntW(O:Ops)(q n:Nat)(rows:LL):LN:=cntL (wl O q rows (List.replicate n 0)) n (wl O q rows (List.replicate n 0)).length
theorem cntW_at{O:Ops}{q n t:Nat}{rows:LL}(b:∀r∈rows,r.length=n)(c:t<=n):(((cntW O q n rows).getD t 0:Nat):Int)=wc q rows.length (fun m=>Dv.combO O (List.replicate n 0) m rows) t:=by unfold cntW wc;rw[cntL_at c,List.take_length,filter_sum,wl_sum (n:=n) _ rows _ b List.length_replicate];refine qfS fun m _ _=>?_;simp only[beq_iff_eq]
theorem cntW_pos{O:Ops}{q n:Nat}{rows:LL}{m:LN}(f:∀r∈rows,r.length=n)(d:m.length=rows.length)(h:∀x∈m,x<q)(g:Dv.wt (Dv.combO O (List.replicate n 0) m rows)<=n):(cntW O q n rows).getD (Dv.wt (Dv.combO O (List.replicate n 0) m rows)) 0≠0:=by unfold cntW;rw[cntL_at g,List.take_length];have b:=wl_mem (O:=O) (q:=q) rows (List.replicate n 0) m f List.length_replicate d h;have c:Dv.combO O (List.replicate n 0) m rows∈(wl O q rows (List.replicate n 0)).filter fun u=>Dv.wt u==Dv.wt (Dv.combO O (List.replicate n 0) m rows):=List.mem_filter.2 ⟨b,U2⟩;exact Nat.ne_of_gt (List.length_pos_of_mem c)
theorem law_count{q n low:Nat}{O:Ops}{h:Fld q O}{rows:LL}(g:∀ r∈rows,Dv.Ok q n r)(i:∀ t,1<=t->t<low->(cntW O q n rows).getD t 0=0):MinW h n rows low:=by
 refine minW_of g fun msg hl hm=>?_;have b:=comb_ok h (rows:=rows) msg (List.replicate n 0) g hm (Dv.zeros_ok (by have:=h.q1;omega));have f:Dv.wt (Dv.combO O (List.replicate n 0) msg rows)<=n:=by exact Nat.le_trans (rwt_le _) (Nat.le_of_eq b.1)
 have d:=cntW_pos (O:=O) (q:=q) (fun r h=>(g r h).1) hl hm f;by_cases c:Dv.wt (Dv.combO O (List.replicate n 0) msg rows)=0
 . exact .inl c
 . right;rcases Nat.lt_or_ge (Dv.wt (Dv.combO O (List.replicate n 0) msg rows)) low with h1|h1
   . exact absurd (i _ U0 h1) d
   . exact h1
theorem dl_sm{q:Nat}{O:Ops}{h:Fld q O}:∀ {c v:LN},c.length=v.length->dl h c v=sm c.length fun j=>wd h v j*wd h c j
 |[],[],_=>rfl
 |x :: c,y :: v,hl=>by
   rw[List.length_cons,qdH]
   show El.of h y*El.of h x+dl h c v=_
   rw[dl_sm (c:=c) (v:=v) (by simpa using hl)]
   rfl
theorem dl_comb{q n:Nat}{O:Ops}{h:Fld q O}{v:LN}(s:v.length=n):∀ (rows:LL)(m u:LN),(∀ r∈rows,Dv.Ok q n r)->m.length=rows.length->(∀ x∈m,x<q)->Dv.Ok q n u->dl h (Dv.combO O u m rows) v=dl h u v+ls h m (rows.map fun r=>dl h r v)
 |[],[],u,_,_,_,_=>((El.fd (h:=h)).zadd _).symm
 |[],_ :: _,_,_,hl,_,_=>by simp at hl
 |_ :: _,[],_,_,hl,_,_=>by simp at hl
 | r :: rs,a :: m,u,hr,hl,hx,hu => by
   have H:=El.fd (h:=h)
   have b:=hr r (List.mem_cons_self ..)
   have f:=hx a (List.mem_cons_self ..)
   have c:=mix_ok h f hu b
   have l:(if a=0 then u else addRow O u a r)=List.zipWith (mixF O a) u r:=(mix_row O a (by rw[hu.1,b.1])).symm
   show dl h (Dv.combO O (if a=0 then u else addRow O u a r) m rs) v=dl h u v+(El.of h a*dl h r v+ls h m (rs.map fun r=>dl h r v))
   rw[l,dl_comb s rs m _ (fun r' h'=>hr r' (List.mem_cons_of_mem _ h')) (by simpa using hl) (fun x h'=>hx x (List.mem_cons_of_mem _ h')) c,<- H.addA]
   congr 1
   rw[dl_sm (by rw[c.1,s]),dl_sm (by rw[hu.1,s]),dl_sm (by rw[b.1,s]),c.1,hu.1,b.1]
   have o:sm n (fun j=>wd h v j*wd h (List.zipWith (mixF O a) u r) j)=sm n fun j=>wd h v j*wd h u j+El.of h a*(wd h v j*wd h r j):=H.sm_congr fun j hj=>by
    have i:j<u.length:=by rw[hu.1];exact hj
    have g:j<r.length:=by rw[b.1];exact hj
    have p:wd h (List.zipWith (mixF O a) u r) j=wd h u j+El.of h a*wd h r j:=by
     unfold wd
     rw[show(List.zipWith (mixF O a) u r).getD j 0=mixF O a (u.getD j 0) (r.getD j 0) by simp[List.getD,List.getElem?_zipWith,i,g]]
     have k:u.getD j 0<q:=getD_ok hu.2 (by have:=h.q1;omega) j
     have d:r.getD j 0<q:=getD_ok b.2 (by have:=h.q1;omega) j
     unfold mixF
     split
     . rename_i h0
       rcases h0 with h0|h0
       . rw[h0,El.of_zero,H.zmul,H.zadd]
       . rw[h0,El.of_zero,H.mulZ,H.zadd]
     . rw[El.of_add k (h.mulL _ _ f d),El.of_mul f d]
    rw[p,H.dist]
    congr 1
    rw[<- H.mulA,H.mulC (wd h v j),H.mulA]
   rw[o,H.sm_lin]
theorem law_trans{q n low:Nat}{O:Ops}{h:Fld q O}{rows K:LL}(B:∀r∈rows,Dv.Ok q n r)(z:∀r∈K,Dv.Ok q n r)(D:∀u∈K,∀g∈rows,sm n (fun j=>wd h g j*wd h u j)=0)(A:LN)(C:∀j,j<n+1->(A.getD j 0:Int)*(cntW O q n K).sum=trO q n (natZ (cntW O q n K)) j (n+1))(E:∀j,1<=j->j<low->A.getD j 0=0):MinW h n rows low:=by
 have H:=El.fd (h:=h);have s:=h.q1;refine minW_of B fun msg hl hm=>?_;have L:LinF q O h fun f=>∀u∈K,sm n (fun j=>f j*wd h u j)=0:=by
  refine⟨fun g _=>H.sm_zero fun j _=>H.zmul _,fun f g a hf hg u hu=>?_⟩;have e:sm n (fun j=>(f j+a*g j)*wd h u j)=sm n (fun j=>f j*wd h u j+a*(g j*wd h u j)):=H.sm_congr fun j _=>by rw[H.rdist,H.mulA]
  rw[e,H.sm_lin,hf u hu,hg u hu,H.mulZ,H.addZ]
 obtain⟨p,b⟩:=L.comb (fun r hm=>⟨B r hm,fun u hu=>D u hu r hm⟩) msg (List.replicate n 0) hm (Dv.zeros_ok U0) (by
  rw[show wd h (List.replicate n 0)=fun _=>0 from funext fun j=>qeH _ _]
  exact L.zero)
 generalize t:Dv.combO O (List.replicate n 0) msg rows=v at *;have y:Dv.wt v<=n:=Nat.le_trans (rwt_le _) (Nat.le_of_eq b.1);by_cases l:Dv.wt v=0
 . exact .inl l
 right;rcases Nat.lt_or_ge (Dv.wt v) low with h1|h1;rotate_left
 . exact h1
 exfalso;have k:∀m:LN,m.length=K.length->(∀x∈m,x<q)->Dv.Ok q n (Dv.combO O (List.replicate n 0) m K):=fun m _ hx=>comb_ok h m (List.replicate n 0) z hx (Dv.zeros_ok U0)
 have c:=mac_pos (h:=h) (n:=n) (rows:=K) (fun m=>Dv.combO O (List.replicate n 0) m K) (fun m hml hmx=>⟨k m hml hmx,fun u hu=>by
  rw[dl_comb hu K m _ z hml hmx (Dv.zeros_ok U0),dl_sm (by rw[List.length_replicate,hu]),H.sm_zero fun j _=>by rw[qeH,H.mulZ],H.addZ]⟩) b (fun r hm=>by
  rw[dl_sm (by rw[(z r hm).1,b.1]),(z r hm).1]
  exact p r hm)
 rw[sms_gk (n:=n) fun m hml hmx=>(k m hml hmx).1] at c;have d:=C (Dv.wt v) U0;rw[E _ U0 h1] at d;have o:trO q n (natZ (cntW O q n K)) (Dv.wt v) (n+1)=zs (n+1) fun i=>wc q K.length (fun m=>Dv.combO O (List.replicate n 0) m K) i*tb q n i (Dv.wt v):=qeX fun i hi=>by rw[natZ_at,cntW_at (fun r h=>(z r h).1) U0]
 rw[<- o,<- d] at c;simp at c
end Go.Proofs.YtflejelbdlelpaaGreat
namespace Go.Proofs.YtflejelbdlelpaaGreat
open Go.RowKit Pln Go.Proofs.Tryz
open Al
theorem nzIx_none:∀ (v:LN)(k:Nat),nzIx v k<0->∀ j,v.getD j 0=0
 |[],_,_,j=>by simp[List.getD]
 | x :: r,k,h,j => by
   unfold nzIx at h
   split at h
   . rename_i hx
     cases j with
     |zero=>simpa[List.getD] using hx
     |succ j=>simpa[List.getD] using nzIx_none r (k+1) h j
   . omega
theorem trans1_c(A:OA)(k c:Nat)(W:Wo):zC 117 #[zL A k c] W fun e w'=>e=.returned (.bool (decide (0<k)))/\W=w':=by go_enter func117,ntmps117;go_wp2;go_ret;exact⟨rfl,rfl⟩
theorem indexN_c(Ns:LN)(A:OA)(c:Nat)(w:Wo)(I:NatsAt w A Ns)(J:Ns.length<=1000):
 zC 165 #[zL A Ns.length c,.func (.func 117) #[] #[]] w fun e w'=>e=.returned (Y (nzIx Ns 0))/\w=w':=by
 have t:=zH I;have g:zK (RelNx Ns w (nzIx Ns 0) (Y ((0:Nat):Int)) w):=⟨0,U0,rfl,rfl,rfl⟩;have B:∀(args:Array Value)(W:Wo),(callFunc 117 args).run prog W=.ok (.enter 117 args) W:=enters_of func117 U1 rfl;clear I;generalize nzIx Ns 0=r at *;go_enter func165,ntmps165;go_wp2;go_loopw [8] (fun v8 wr=>RelNx Ns w r v8 wr) (fun v8 _=>Ns.length-(intOf v8).toNat);case atStart=>exact g.o
 case round =>
  obtain⟨k,C,rfl,i,rfl⟩:=hrel;clear g;by_cases h:k<Ns.length
  . obtain ⟨b,o,rfl,z,p⟩ := t.o U0;obtain ⟨v,D,n⟩:=p k h;obtain ⟨s,q,u,rfl⟩:=qeS n;have l:=natV_len n;have E:(0:Int)<=(k:Int):=U0;have H:(k:Int)<(Ns.length:Int):=U0;have y:IntKind.i64.wrap ((k:Int)+1)=(k:Int)+1:=IntWalk.i64_in _ U0;(have d:zK ((if Ns.getD k 0=0 then nzIx (Ns.drop (k+1)) (k+1) else (k:Int))=r):=by rw [<- nzIx_step h];exact i);clear i n p;have j:=zH (trans1_c s q u wr);generalize Ns.getD k 0=x at *;by_cases f:x=0
    . rw[if_pos f] at d;have m:=l.2 f;subst m;have hd:decide (0<0)=false:=rfl;rw[hd] at j;clear l f hd;go_wp2_with fail;refine j.o.mono ?_;rintro e w' ⟨rfl,rfl⟩;go_wp2;go_roundw;case rel=>exact⟨k+1,U0,U3,d.o,rfl⟩
      case measure=>simp[intOf];omega
    . rw[if_neg f] at d;have hd:decide (0<q)=true:=decide_eq_true (by have:=mt l.1 f;omega);rw[hd] at j;clear l f hd;go_wp2_with fail;refine j.o.mono ?_;rintro e w' ⟨rfl,rfl⟩;go_wp2;go_ret;have e:=d.o;exact⟨by rw[<- e];rfl,rfl⟩
  . (obtain rfl:k=Ns.length:=by omega);(have d:zK ((-1:Int)=r):=by rw[List.drop_eq_nil_of_le zn] at i;exact i);clear i;go_wp2;go_ret;have e:=d.o;exact⟨by rw[<- e];rfl,rfl⟩
theorem containsN_c(Ns:LN)(A:OA)(c:Nat)(w:Wo)(d:NatsAt w A Ns)(f:Ns.length<=1000):
 zC 116 #[zL A Ns.length c,.func (.func 117) #[] #[]] w fun e w'=>e=.returned (.bool (decide (0<=nzIx Ns 0)))/\w=w':=by have b:=zH (indexN_c Ns A c w d f);clear d;generalize nzIx Ns 0=r at *;go_enter func116,ntmps116;go_wp2_with fail;refine b.o.mono ?_;rintro e w' ⟨rfl,rfl⟩;go_wp2;go_ret;exact⟨rfl,rfl⟩
theorem sum_one(w:Nat)(f:Nat->Nat):∀ m,((List.range m).map fun t=>f t+if w=t then 1 else 0).sum=((List.range m).map f).sum+if w<m then 1 else 0
 |0=>rfl
 | m + 1 => by
   rw[List.range_succ,List.map_append,List.sum_append,List.map_append,List.sum_append,sum_one w f m]
   simp only[List.map_cons,List.map_nil,List.sum_cons,List.sum_nil]
   by_cases h1:w=m
   . rw[if_pos h1,if_neg U0,if_pos U0]
     omega
   . rw [if_neg h1]
     by_cases h2:w<m
     . rw[if_pos h2,if_pos U0]
       omega
     . rw[if_neg h2,if_neg U0]
       omega
theorem cnt_sum(n:Nat):∀ L:LL,(∀ u∈L,Dv.wt u<=n)->((List.range (n+1)).map fun t=>(L.filter fun u=>Dv.wt u==t).length).sum=L.length
 | [],_ => by
   refine Nat.eq_zero_of_not_pos fun h=>?_
   have:∀m,((List.range m).map fun t=>(([]:LL).filter fun u=>Dv.wt u==t).length).sum=0:=fun m=>by
    induction m with
    |zero=>rfl
    |succ m c=>rw[List.range_succ,List.map_append,List.sum_append,c];rfl
   rw[this] at h
   omega
 | x :: L,h => by
   have c:=cnt_sum n L fun u hu=>h u (List.mem_cons_of_mem _ hu)
   have e:((List.range (n+1)).map fun t=>((x :: L).filter fun u=>Dv.wt u==t).length)=(List.range (n+1)).map fun t=>(L.filter fun u=>Dv.wt u==t).length+if Dv.wt x=t then 1 else 0:=List.map_congr_left fun t _=>by
    rw[List.filter_cons]
    by_cases b:Dv.wt x=t
    . rw[if_pos (by simp[b]),if_pos b,List.length_cons]
    . rw[if_neg (by simp[b]),if_neg b]
      rfl
   have d:=h x (List.mem_cons_self ..)
   rw[e,sum_one,c,if_pos U0,List.length_cons]
theorem cntW_sum{q n:Nat}{O:Ops}(h:Fld q O){rows:LL}(c:∀r∈rows,Dv.Ok q n r):(cntW O q n rows).sum=q^rows.length:=by unfold cntW cntL;rw[List.take_length,cnt_sum,wl_len];intro u b;have:=wl_ok h rows _ c (Dv.zeros_ok (by have:=h.q1;omega)) u b;exact Nat.le_trans (rwt_le _) (Nat.le_of_eq this.1)
theorem cntW_len(O:Ops)(q n:Nat)(rows:LL):(cntW O q n rows).length=n+1:=cntL_len _ _ _
theorem ker_code{p m:Int}{mod:LI}{N:Nat}{rows:LL}(f:fieldOK p m mod=true)(g:1<=N)(h:N<=64)(i:Grid (p.toNat^m.toNat) rows.length N rows):codeZ p m mod (N:Int) (nzs (kerM (opsT p.toNat m.toNat (lOf p m mod)) rows N))=0:=by have b:=Al.fld_of (field_ft f);have c:=canon_grid b.self i;have d:=kerRows_grid (piv:=(elGo (opsT p.toNat m.toNat (lOf p m mod)) rows N).piv) b.self b.q1 c rfl;unfold kerM;have:=(codeZ_canon (mod:=mod) f g h d).1;exact this
end Go.Proofs.YtflejelbdlelpaaGreat
namespace Go.Proofs.YtflejelbdlelpaaGreat
open Go.RowKit Pln
open Al
def RelTr(w1:Wo)(Ns:LN)(v9 v29:Value)(wr:Wo):Prop:=
 ∃k:Nat,k<=Ns.length/\v29=Y (k:Int)/\NOwn wr w1.heap.size v9 (Ns.take k)/\zB w1 wr
theorem natsAt_drop{w:Wo}{Ns:LN}{b o:Nat}(h:NatsAt w (some (zA b o)) Ns)(l:Nat)(m:l+1<=Ns.length):NatsAt w (some (zA b (o+1))) ((Ns.drop 1).take l):=fun hz=>by
 obtain⟨i,k,e,c,g⟩:=h U0
 injection e with e
 injection e with e1 e2
 subst e1
 subst e2
 refine⟨_,_,rfl,c,fun j hj=>?_⟩
 rw[List.length_take,List.length_drop] at hj
 obtain⟨v,d,f⟩:=g (1+j) U0
 have e:((Ns.drop 1).take l).getD j 0=Ns.getD (1+j) 0:=by
  simp only[List.getD,List.getElem?_take,List.getElem?_drop]
  rw[if_pos U0]
 exact⟨v,by rw[Nat.add_assoc];exact d,by rw[e];exact f⟩
theorem form_len{s:StD}(d:formZ s=0):(natR s.gen).length<=s.n.toNat:=by have c:=qgB d;have b:=(qeN (O:=opsS s) (natR s.gen) s.n.toNat).1;rw[<- canonM_len,c] at b;exact b
theorem ints_drop{w:Wo}{B b o:Nat}{L:LN}(h:IntsAt w B (some (zA b o)) (nz L))(l:Nat)(k:l+1<=L.length):IntsAt w B (some (zA b (o+1))) (nz ((L.drop 1).take l)):=fun hz=>by
 obtain⟨g,i,e,c,f⟩:=h (by rw[qaA];omega)
 injection e with e
 injection e with e1 e2
 subst e1
 subst e2
 refine⟨_,_,rfl,c,fun j hj=>?_⟩
 rw[qaA,List.length_take,List.length_drop] at hj
 have d:=f (1+j) (by rw[qaA];omega)
 have e:((L.drop 1).take l).getD j 0=L.getD (1+j) 0:=by
  simp only[List.getD,List.getElem?_take,List.getElem?_drop]
  rw[if_pos U0]
 rw[Nat.add_assoc,d,qaC,qaC,e]
structure StepW (s:StD) (N L:Nat) (rows:LL):Prop where
 n:((N:Nat):Int)=s.n
 low:((L:Nat):Int)=s.low
 gen:nzs rows=s.gen
 len:rows.length=s.gen.length
 mod:s.mod.length<=1000000
 fld:fieldOK s.p s.m s.mod=true
 code:codeZ s.p s.m s.mod (N:Int) (nzs rows)=0
 err:errC s.p s.m s.mod (N:Int) (nzs rows)=0
 n1:1<=N
 n2:N<=64
 grid:Grid (s.p.toNat^s.m.toNat) rows.length N rows
 l1:1<=L
 l2:L<=N+1
 rl:rows.length<=64
theorem step_w{s:StD}(r:formZ s=0):StepW s s.n.toNat s.low.toNat (natR s.gen):=by
 have b:=form_is r;have c:((s.n.toNat:Nat):Int)=s.n:=by have:=b.n1;omega
 have f:((s.low.toNat:Nat):Int)=s.low:=by have:=b.low1;omega
 have g:s.mod.length<=1000000:=by
  have i:=qeQ (by have h:=b.field;unfold fieldOK at h;rw[Bool.and_eq_true] at h;exact h.1:shapeM s.p s.m s.mod=true);by_cases d:s.m=1
  . rw[i.one d];simp
  . rw[i.len d];have:=i.small.m2;omega
 have j:=b.n1;have k:=b.n2;have l:=b.low1;have o:=b.low2;have q:=form_len r;exact⟨c,f,b.rows,by unfold natR;rw[List.length_map],g,b.field,by rw[b.rows,c];exact qbG r,by rw[b.rows,c];exact form_err r,U0,U0,b.grid,U0,U0,U0⟩
theorem low_min{s:StD}(b:formZ s=0)(h:MinW (fld_of (field_ft (step_w b).fld)) s.n.toNat (natR s.gen) s.low.toNat):LowOk s:=fun _=>h
theorem count_low{s:StD}(b:formZ s=0)(h:∀t,1<=t->t<s.low.toNat->(cntW (opsT s.p.toNat s.m.toNat (lOf s.p s.m s.mod)) (s.p.toNat^s.m.toNat) s.n.toNat (natR s.gen)).getD t 0=0):LowOk s:=
 low_min b (law_count (step_w b).grid.2 h)
end Go.Proofs.YtflejelbdlelpaaGreat
namespace Go.Proofs.YtflejelbdlelpaaGreat
open Pln
namespace Al
section
variable {q:Nat} {O:Ops} {h:Fld q O}
theorem ker_dotF{f:Nat->El q O h}{n:LL}{piv:LN}{r cols c:Nat}(v:Grid q r cols n)(u:∀ i k,i<r->k<r->at2 n i (piv.getD k 0)=if i=k then 1 else 0)(s:c<cols)(o:∀ k,k<r->piv.getD k 0≠c)(p:∀ k,k<r->piv.getD k 0<cols):
 ∀t,t<=r->sm cols (fun j=>f j*wd h (kerK O n piv cols c t) j)=f c+sm t (fun k=>f (piv.getD k 0)*-wd h (n.getD k []) c)
 | 0,_ => by
   have H:=El.fd (h:=h)
   rw[H.sm_one s]
   . have : wd h (kerK O n piv cols c 0) c = 1 := by
      unfold kerK wd
      have:((List.replicate cols 0).set c 1).getD c 0=1:=by simp[List.getD,s]
      rw[this,El.of_one]
     rw[this,H.umul]
     exact(H.zadd _).symm
   . intro j _ g
     rw[kerK_at g 0 (fun k hk=>U0),H.mulZ]
 | t + 1,ht => by
   have H:=El.fd (h:=h)
   have m:=ker_dotF (f:=f) v u s o p t U0
   have hd:∀k,k<t->piv.getD k 0≠piv.getD t 0:=fun k hk e=>by
    have b:=u k k U0 U0
    have d:=u k t U0 U0
    rw[if_pos rfl] at b
    rw[if_neg U0,<- e,b] at d
    omega
   have l:=v.at_ (i:=t) (c:=c) U0 s
   show sm cols (fun j=>f j*wd h ((kerK O n piv cols c t).set (piv.getD t 0) (O.neg ((n.getD t []).getD c 0))) j)=f c+(sm t (fun k=>f (piv.getD k 0)*-wd h (n.getD k []) c)+f (piv.getD t 0)*-wd h (n.getD t []) c)
   rw[dot_set (kerK_len _ _ _ _ _ _) (p t U0) (kerK_at (o t U0) t hd),m,H.addA]
   congr 2
   rw[El.of_neg (by exact l)]
   rfl
theorem orth_lin(n:Nat)(f:Nat->El q O h):LinF q O h fun g=>sm n (fun j=>f j*g j)=0 where
 zero:=(El.fd (h:=h)).sm_zero fun j _=>(El.fd (h:=h)).mulZ _
 step g k a hg hk:=by
  have H:=El.fd (h:=h)
  have e:sm n (fun j=>f j*(g j+a*k j))=sm n (fun j=>f j*g j+a*(f j*k j)):=H.sm_congr fun j _=>by
   rw[H.dist,<- H.mulA,<- H.mulA,H.mulC a]
  show sm n (fun j=>f j*(g j+a*k j))=0
  rw[e,H.sm_lin,hg,hk,H.mulZ,H.addZ]
theorem dual_in{n cols:Nat}{rows:LL}(x:Grid q n cols rows){f:Nat->El q O h}(y:∀ u∈kerM O rows cols,sm cols (fun j=>f j*wd h u j)=0):InC h cols (canonM O rows cols) f:=by
 have H:=El.fd (h:=h);have E:=h.self;have l:=canon_grid E x;have r:=kerRows_grid (piv:=(elGo O rows cols).piv) E h.q1 l rfl;have v:=(orth_lin cols f).back r y;have p:∀k,k<(elGo O rows cols).piv.length->(elGo O rows cols).piv.getD k 0∈(elGo O rows cols).piv:=fun k b=>by rw[getD_at b];exact List.getElem_mem b
 refine⟨fun k=>f ((elGo O rows cols).piv.getD k 0),fun j hj=>?_⟩;rw[canonM_len];by_cases d:j∈(elGo O rows cols).piv
 . obtain⟨m,g,rfl⟩:=List.mem_iff_getElem.1 d;rw[H.sm_one g]
   . have c:=unit_canon h x g g;rw[if_pos rfl,getD_at g] at c;rw[<- qcJ,c,El.of_one,H.umul];show f _=f _;rw[getD_at g]
   . intro k b s;have c:=unit_canon h x b g;rw[if_neg s,getD_at g] at c;rw[<- qcJ,c,El.of_zero,H.mulZ]
 . (have o:kerK O (canonM O rows cols) (elGo O rows cols).piv cols j (elGo O rows cols).piv.length∈kerRows O (canonM O rows cols) (elGo O rows cols).piv cols:=by unfold kerRows;refine List.mem_map.2 ⟨j,?_,rfl⟩;unfold freeC;rw[List.mem_filter,List.mem_range];exact⟨hj,by simpa using d⟩);have c:=v _ o;rw[ker_dotF l (fun i k hi b=>unit_canon h x hi b) hj (fun k b e=>d (by rw[<- e];exact p k b)) (fun k b=>elGo_piv_lt O rows cols _ (p k b)) _ zn] at c;(have t:sm (elGo O rows cols).piv.length (fun k=>f ((elGo O rows cols).piv.getD k 0)*-wd h ((canonM O rows cols).getD k []) j)=-sm (elGo O rows cols).piv.length (fun k=>f ((elGo O rows cols).piv.getD k 0)*wd h ((canonM O rows cols).getD k []) j):=by refine H.negu ?_;rw[<- H.sm_add];refine H.sm_zero fun k _=>?_;rw[H.mneg,H.addN]);rw[t] at c;exact H.subz c
end
end Al
end Go.Proofs.YtflejelbdlelpaaGreat
namespace Go.Proofs.YtflejelbdlelpaaGreat
open Go.RowKit Pln
namespace Al
theorem sw_mul{q:Nat}:∀ (n k:Nat) (φ:LN->Int) (a:Int),sw q n k (fun v=>φ v*a)=sw q n k φ*a
 |0,0,_,_=>rfl
 |0,_+1,_,_=>(Int.zero_mul _).symm
 |n+1,0,φ,a=>sw_mul n 0 (fun v=>φ (0 :: v)) a
 |n + 1,k + 1,φ,a=>by
   unfold sw
   rw[sw_mul n (k+1) (fun v=>φ (0 :: v)) a,qeX fun b _=>sw_mul n k (fun v=>φ ((b+1):: v)) a,zs_mul,Int.add_mul]
theorem sw_none{q:Nat}(b:0<q):∀ {n k:Nat} {φ:LN->Int},(∀ v:LN,v.length=n->(∀ x∈v,x<q)->Dv.wt v=k->φ v=0)->sw q n k φ=0
 |0,0,_,h=>h [] rfl U2 rfl
 |0,_+1,_,_=>rfl
 | n + 1,0,_,h => sw_none b (n := n) (k := 0) fun v hv hx hw => h (0 :: v) (by rw [List.length_cons,hv]) (fun x hx2 => by
    rcases List.mem_cons.1 hx2 with rfl|hx2
    . exact b
    . exact hx x hx2) (by simpa[Dv.wt] using hw)
 | n + 1,k + 1,_,h => by
   unfold sw
   rw [sw_none b (n:=n) (k:=k+1) fun v hv hx hw=>h (0 :: v) (by rw [List.length_cons,hv]) (fun x hx2=>by
    rcases List.mem_cons.1 hx2 with rfl|hx2
    . exact b
    . exact hx x hx2) (by simpa[Dv.wt] using hw),zs_zero fun a ha=>sw_none b (n:=n) (k:=k) fun v hv hx hw=>h ((a+1):: v) (by rw[List.length_cons,hv]) (fun x hx2=>by
    rcases List.mem_cons.1 hx2 with rfl|hx2
    . omega
    . exact hx x hx2) (by
      show(if a+1=0 then 0 else 1)+Dv.wt v=_
      rw[if_neg U0]
      omega)]
   rfl
section
variable {q:Nat} {O:Ops} {h:Fld q O}
def orN(h:Fld q O)(n k:Nat)(rows:LL):Int:=sw q n k fun u=>if allz (rows.map fun r=>dl h r u)=true then 1 else 0
theorem orN_nonneg(n k:Nat)(rows:LL):0<=orN h n k rows:=qfM fun v=>by
 split
 . exact Int.zero_le_ofNat 1
 . exact Int.le_refl 0
theorem mac_eq{n:Nat}{rows:LL}(W:LN->LN)(i:∀m:LN,m.length=rows.length->(∀x∈m,x<q)->Dv.Ok q n (W m)/\∀v:LN,v.length=n->dl h (W m) v=ls h m (rows.map fun r=>dl h r v))(k:Nat):
 sms q rows.length (fun m=>gk q (W m) k)=(q:Int)^rows.length*orN h n k rows:=by
 have H:=El.fd (h:=h);have g:=h.q1;have e:sms q rows.length (fun m=>gk q (W m) k)*((q:Int)-1)=sw q n k (fun u=>sms q rows.length fun m=>ez (0+ls h m (rows.map fun r=>dl h r u))):=by rw[<- sms_sw,<- sms_mul];refine qfS fun m hm hx=>?_;obtain⟨b,d⟩:=i m hm hx;have c:=sw_ez (h:=h) (W m) b.2 k 0;rw[ez_zero,b.1] at c;rw[Int.mul_comm,<- c];exact qfO fun u hu=>by rw[d u hu]
 have f:∀u,sms q rows.length (fun m=>ez (0+ls h m (rows.map fun r=>dl h r u)))=(if allz (rows.map fun r=>dl h r u)=true then 1 else 0)*((q:Int)^rows.length*((q:Int)-1)):=fun u=>by
  have:=sms_ez (h:=h) (rows.map fun r=>dl h r u) 0;rw[List.length_map] at this;rw[this,ez_zero];split
  . rw[Int.one_mul]
  . rw[Int.zero_mul]
 rw[qfO (ψ:=fun u=>(if allz (rows.map fun r=>dl h r u)=true then 1 else 0)*((q:Int)^rows.length*((q:Int)-1))) fun u _=>f u,sw_mul,<- Int.mul_assoc] at e;have:=Int.eq_of_mul_eq_mul_right U0 e;rw[this,Int.mul_comm];rfl
theorem trO_mac{n j:Nat}{K:LL}(f:∀r∈K,Dv.Ok q n r):trO q n (natZ (cntW O q n K)) j (n+1)=(q:Int)^K.length*orN h n j K:=by
 have H:=El.fd (h:=h);have d:=h.q1;have b:∀m:LN,m.length=K.length->(∀x∈m,x<q)->Dv.Ok q n (Dv.combO O (List.replicate n 0) m K):=fun m _ hx=>comb_ok h m (List.replicate n 0) f hx (Dv.zeros_ok U0)
 have c:=mac_eq (h:=h) (n:=n) (rows:=K) (fun m=>Dv.combO O (List.replicate n 0) m K) (fun m hml hmx=>⟨b m hml hmx,fun u hu=>by
  rw[dl_comb hu K m _ f hml hmx (Dv.zeros_ok U0),dl_sm (by rw[List.length_replicate,hu]),H.sm_zero fun j _=>by rw[qeH,H.mulZ],H.addZ]⟩) j
 rw[sms_gk (n:=n) fun m hml hmx=>(b m hml hmx).1] at c;rw[<- c];exact qeX fun i hi=>by rw[natZ_at,cntW_at (fun r h=>(f r h).1) U0]
theorem orN_zero{n low j:Nat}{rows:LL}(i:Grid q rows.length n rows)(g:∀ r∈kerM O rows n,r.length=n)(k:MinW h n (canonM O rows n) low)(l:1<=j)(m:j<low):orN h n j (kerM O rows n)=0:=by
 have f:=h.q1;refine sw_none U0 fun v hv hx hw=>?_;split
 . rename_i hz;exfalso;(have d:∀u∈kerM O rows n,sm n (fun j=>wd h v j*wd h u j)=0:=fun u hu=>by have:=allz_iff.1 hz (dl h u v) (List.mem_map.2 ⟨u,hu,rfl⟩);rw[dl_sm (by rw[g u hu,hv]),g u hu] at this;exact this);have c:=dual_in i d;have b:=wf_wt (h:=h) hx;rw[hv,hw] at b;rcases k _ c with h3|h3
   . rw[qcW h3] at b;omega
   . omega
 . rfl
end
end Al
end Go.Proofs.YtflejelbdlelpaaGreat
namespace Go.Proofs.YtflejelbdlelpaaGreat
open Go.RowKit Pln Go.Proofs.Tryz
open Al
def ItPostX(w:Wo)(P:Prop)(e:Ending)(w':Wo):Prop:=(∃b:Bool,e=.returned (.bool b)/\(b=true->P)/\(P->b=true))/\zB w w'
theorem nzIx_all:∀ (v:LN)(k:Nat),(∀ x∈v,x=0)->nzIx v k=-1
 |[],_,_=>rfl
 |x :: r,k,h=>by
   unfold nzIx
   rw[if_pos (h x (List.mem_cons_self ..))]
   exact nzIx_all r (k+1) fun y hy=>h y (List.mem_cons_of_mem _ hy)
theorem transform_x(p m:Int)(mod:LI)(n:Nat)(rows:LL)(Am Ag:OA)(cm cg:Nat)(low:Nat)(w:Wo)(hM:zI w Am mod)(cj:mod.length<=1000000)(hA:zR w Ag (nzs rows))(cn:rows.length<=1000)(hf:fieldOK p m mod=true)(hz:codeZ p m mod (n:Int) (nzs rows)=0)(cd:errC p m mod (n:Int) (nzs rows)=0)(hn:1<=n)(cf:n<=64)(hG:Grid (p.toNat ^ m.toNat) rows.length n rows)(ck:1<=low)(cl:low<=n+1)(ce:canonM (opsT p.toNat m.toNat (lOf p m mod)) rows n=rows)(ci:(p.toNat ^ m.toNat) ^ (kerM (opsT p.toNat m.toNat (lOf p m mod)) rows n).length<=65536):
 zC 51 #[C7 p m Am mod.length cm n Ag rows.length cg,Y (low:Int)] w (ItPostX w (MinW (fld_of (field_ft hf)) n rows low)):=by
 have ab:=field_ft hf;have l:=Al.fld_of ab;have b6:=l.q1;have b7:=ab.small.q;have y:=ker_grid l hG;have bi:=ker_code hf hn cf hG;have HX:=zH (bx_new w (C3 p m Am mod.length cm n Ag rows.length cg) 27);have ao:zK (∀W,zB w W->_):=fun W hW=>dual_all p m mod Am cm n rows Ag cg _ W ((hM.keep hW).more hW.size) cj ((hA.keep hW).more hW.size) U0 hz hn cd rfl;have a6:zK (∀(W:Wo)(A2 A':OA)(c2 c':Nat),zI W A2 mod->zR W A' (nzs (kerM (opsT p.toNat m.toNat (lOf p m mod)) rows n))->zC 48 #[C7 p m A2 mod.length c2 n A' (kerM (opsT p.toNat m.toNat (lOf p m mod)) rows n).length c'] W (WtPost W n (cntW (opsT p.toNat m.toNat (lOf p m mod)) (p.toNat^m.toNat) n (kerM (opsT p.toNat m.toNat (lOf p m mod)) rows n)) ((p.toNat^m.toNat)^(kerM (opsT p.toNat m.toNat (lOf p m mod)) rows n).length<=65536))):=fun W A2 A' c2 c' h1 h2=>weights_c p m mod n (kerM (opsT p.toNat m.toNat (lOf p m mod)) rows n) A2 A' c2 c' W h1 cj h2 U0 hf bi hn cf y.2;have C:(cntW (opsT p.toNat m.toNat (lOf p m mod)) (p.toNat^m.toNat) n (kerM (opsT p.toNat m.toNat (lOf p m mod)) rows n)).sum=(p.toNat^m.toNat)^(kerM (opsT p.toNat m.toNat (lOf p m mod)) rows n).length:=cntW_sum l y.2;have af:(cntW (opsT p.toNat m.toNat (lOf p m mod)) (p.toNat^m.toNat) n (kerM (opsT p.toNat m.toNat (lOf p m mod)) rows n)).length=n+1:=cntW_len _ _ _ _;have a0:zK (0<(p.toNat^m.toNat)^(kerM (opsT p.toNat m.toNat (lOf p m mod)) rows n).length):=Nat.pow_pos U0;have ax:zK (∀W,zB w W->zC 66 #[C4 p m Am mod.length cm] W fun e w'=>(∃gb,e=.returned (.tuple (Cm gb))/\W.heap.size<=gb/\GFAt w' w'.heap.size gb p.toNat m.toNat (lOf p m mod) (logL (lOf p m mod) (p.toNat^m.toNat)))/\zB W w'):=fun W hW=>fnew_ok p m mod Am cm W ((hM.keep hW).more hW.size) hf;have az:zK (∀W gb,GFAt W W.heap.size gb p.toNat m.toNat (lOf p m mod) (logL (lOf p m mod) (p.toNat^m.toNat))->_):=fun W gb h=>gorder_e gb W.heap.size p.toNat m.toNat (lOf p m mod) _ W h;have av:zK (∀(s:Nat),s=n+1->∀(W:Wo)(A:OA)(c:Nat)(f:LN),f.length=s->NatsAt W A f->f.sum<BB->0<f.sum->zC 114 #[Y ((p.toNat^m.toNat:Nat):Int),zL A s c] W fun e w'=>((∃A c d,e=.returned (.tuple #[zL A s c,Y 0])/\s<=c/\d.length=s/\NatsAt w' A d/\∀j,j<s->(d.getD j 0:Int)*f.sum=trO (p.toNat^m.toNat) n (natZ f) j s)\/(e=.returned (.tuple #[zL none 0 0,Y 5])/\∃j,¬Fine f.sum (trO (p.toNat^m.toNat) n (natZ f) j s)))/\zB W w'):=fun s h W A c f h1 h2 V h4=>by
  subst h;refine(mdual_c (p.toNat^m.toNat) n A c f W U0 U0 cf h1 h2 V h4).mono ?_;rintro e w' (⟨A,c,d,he,hc,hl,ha,hv,X⟩|⟨he,⟨j,_,M⟩,X⟩)
  . exact⟨.inl ⟨A,c,d,he,hc,hl,ha,fun j M=>(hv j M).2⟩,X⟩
  . exact⟨.inr ⟨he,j,M⟩,X⟩
 have ac:=ker_orth (h:=l) hG;rw[ce] at ac;have a4:zK (∀d:LN,(∀j,j<n+1->(d.getD j 0:Int)*(cntW (opsT p.toNat m.toNat (lOf p m mod)) (p.toNat^m.toNat) n (kerM (opsT p.toNat m.toNat (lOf p m mod)) rows n)).sum=trO (p.toNat^m.toNat) n (natZ (cntW (opsT p.toNat m.toNat (lOf p m mod)) (p.toNat^m.toNat) n (kerM (opsT p.toNat m.toNat (lOf p m mod)) rows n))) j (n+1))->(∀j,1<=j->j<low->d.getD j 0=0)->MinW l n rows low):=fun d h1 h2=>law_trans hG.2 y.2 ac d h1 h2;have bv:(0:Int)<((p.toNat^m.toNat:Nat):Int)^(kerM (opsT p.toNat m.toNat (lOf p m mod)) rows n).length:=Int.pow_pos U0;have ai:(((cntW (opsT p.toNat m.toNat (lOf p m mod)) (p.toNat^m.toNat) n (kerM (opsT p.toNat m.toNat (lOf p m mod)) rows n)).sum:Nat):Int)=((p.toNat^m.toNat:Nat):Int)^(kerM (opsT p.toNat m.toNat (lOf p m mod)) rows n).length:=by rw[C];exact Int.natCast_pow _ _
 have ap:zK (∀j,Fine (cntW (opsT p.toNat m.toNat (lOf p m mod)) (p.toNat^m.toNat) n (kerM (opsT p.toNat m.toNat (lOf p m mod)) rows n)).sum (trO (p.toNat^m.toNat) n (natZ (cntW (opsT p.toNat m.toNat (lOf p m mod)) (p.toNat^m.toNat) n (kerM (opsT p.toNat m.toNat (lOf p m mod)) rows n))) j (n+1))):=fun j=>by have h0:=orN_nonneg (h:=l) n j (kerM (opsT p.toNat m.toNat (lOf p m mod)) rows n);rw[trO_mac (h:=l) y.2,<- ai];refine⟨Int.mul_nonneg (Int.natCast_nonneg _) h0,?_⟩;rw[Int.natAbs_mul,Int.natAbs_natCast];exact Nat.mul_mod_right _ _
 have bd:zK (MinW l n rows low->∀d:LN,(∀j,j<n+1->(d.getD j 0:Int)*(cntW (opsT p.toNat m.toNat (lOf p m mod)) (p.toNat^m.toNat) n (kerM (opsT p.toNat m.toNat (lOf p m mod)) rows n)).sum=trO (p.toNat^m.toNat) n (natZ (cntW (opsT p.toNat m.toNat (lOf p m mod)) (p.toNat^m.toNat) n (kerM (opsT p.toNat m.toNat (lOf p m mod)) rows n))) j (n+1))->∀j,1<=j->j<low->d.getD j 0=0):=fun hm d hB j h1 h2=>by
  have V:=hB j U0;rw[trO_mac (h:=l) y.2,orN_zero (h:=l) hG (fun r hr=>(y.2 r hr).1) (by rw[ce];exact hm) h1 h2,Int.mul_zero] at V;rcases Int.mul_eq_zero.1 V with h4|h4
  . omega
  . rw[ai] at h4;omega
 have ar:zK ((p.toNat^m.toNat)^(kerM (opsT p.toNat m.toNat (lOf p m mod)) rows n).length<=65536):=ci;clear hM hA hz cd hG ab y bi ac ci bv ai ce;generalize MinW (fld_of (field_ft hf)) n rows low=TP at *;clear l hf;generalize (cntW (opsT p.toNat m.toNat (lOf p m mod)) (p.toNat^m.toNat) n (kerM (opsT p.toNat m.toNat (lOf p m mod)) rows n))=f at *;generalize (kerM (opsT p.toNat m.toNat (lOf p m mod)) rows n)=K at *;generalize p.toNat^m.toNat=q at *;go_enter func51,ntmps51;go_upto_region 1 with fail;generalize w.alloc (C8 p m Am mod.length cm n Ag rows.length cg)=W0 at *;have I:=zH HX.o.range;have ak:=zH (ao.o W0 HX.o.below);go_wp2_with (refine wpList_load_mid rfl 27 (.tmp 2) rfl w.heap.size 0 rfl (C3 p m Am mod.length cm n Ag rows.length cg) _ I.o underlying27 rfl codeSize ?_);go_fit ak.o;rintro e u ⟨⟨A2,c2,A',c',rfl,hK,hM2⟩,hb1⟩;have a7:=zH (HX.o.grow hb1);have b2:=HX.o.2.1.size;have aq:zK (zR u A' (nzs K)):=RowsUp.rowsAt hK;have au:zK (zI u A2 mod):=IntsUp.ints hM2;have S:zK ((u.alloc (Ce)).heap[u.heap.size]?=some (Ce)):=heap_alloc_new _ _;have D:zK (zB u ((u.alloc (Ce)).setRow u.heap.size (Cb p m A2 mod.length c2 n A' K.length c'))):=qaR (zV.alloc zn _) zn _;have an:zK (((u.alloc (Ce)).setRow u.heap.size (Cb p m A2 mod.length c2 n A' K.length c')).heap[u.heap.size]?=some (.cells (C3 p m A2 mod.length c2 n A' K.length c').toArray 27 (0,0))):=setRow_same _ _ _ _ _ S.o;clear hK hM2 hb1 HX ak ao I;go_upto_region 2 with(refine wpList_store_row rfl 27 (.tmp 5) (.tmp 18) rfl _ u.heap.size 27 #[Y 0,Y 0,zL none 0 0,Y 0,zL none 0 0] (Cb p m A2 mod.length c2 n A' K.length c') rfl rfl S.o codeSz rfl sc ?_);generalize (u.alloc (Ce)).setRow u.heap.size (Cb p m A2 mod.length c2 n A' K.length c')=w2 at *;clear S;have a5:=zH (a6.o w2 A2 A' c2 c' ((au.o.keep D.o).more D.o.size) ((aq.o.keep D.o).more D.o.size));have a1:=zH (qeL an.o);have a8:=zH (a7.o.grow D.o);clear D au aq a6 a7 an;go_wp2_with (refine wpList_load_mid rfl 27 (.tmp 5) rfl u.heap.size 0 rfl (C3 p m A2 mod.length c2 n A' K.length c') _ a1.o underlying27 rfl codeSize ?_);go_fit a5.o;rintro e w3 ⟨hc,hb3⟩;have a9:=zH (a8.o.grow hb3);clear hb3 a5 a8 a1;rcases hc with⟨z,b9,br,rfl⟩|⟨g,bs,rfl,hg,hI⟩
 . exact absurd ar.o br
 have HI:=zH hI;have U:zK (f.sum<BB/\0<f.sum):=by
  refine⟨?_,?_⟩
  . rw[C];unfold BB;omega
  . rw[C];exact a0.o
 clear hI C a0 bs;obtain⟨s,ae⟩:∃s,s=n+1:=⟨_,rfl⟩;rw[<- ae] at af ⊢;have b0:s<=65:=U0;have T:=zH ae;have t:=zH af;clear ae af;have I:zK (RelTr w3 f (zL none 0 0) (Y ((0:Nat):Int)) w3):=⟨0,U0,rfl,by rw[List.take_zero];exact NOwn.nil _ _,Below.refl _ _⟩;go_wp2;go_loopw [9,29] (fun v9 v29 wr=>RelTr w3 f v9 v29 wr) (fun _ v29 _=>s-(intOf v29).toNat);case atStart=>exact I.o
 case round =>
  obtain⟨k,hk,rfl,L,X⟩:=hrel;obtain⟨A8,c8,e8,_,_⟩:=L.form;rw[List.length_take,Nat.min_eq_left hk] at e8;subst e8;have B:=zH L;have HB:=zH X;clear I L X;by_cases ad:k<s
  . obtain ⟨b,o,he,aa,hc⟩ := (HI.o.keep HB.o).at_ (k := k) (by rw [qaA,t.o];exact ad);injection he with he;injection he with e1 e2;subst e1;subst e2;rw [qaC,Nat.zero_add] at hc;have bx:=Nat.lt_of_le_of_lt (qfG f k) U.o.1;unfold BB at bx;(have bn:zK (f.take (k+1)=f.take k++[f.getD k 0]):=by show _=_;rw [List.take_succ_eq_append_getElem (by rw [t.o];exact ad)];simp [List.getD,show k<f.length by rw [t.o];exact ad]);generalize f.getD k 0=x at *;have b8:IntKind.u64.wrap (x:Int)=(x:Int):=IntWalk.u64_in _ U0;have HO:=zH (natOf_c x wr (by unfold BB;omega));have k0:(0:Int)<=(k:Int):=U0;have k1:(k:Int)<(s:Int):=U0;go_wp2_with fail;go_fit HO.o;rintro e w4 ⟨v,rfl,hv,hb4⟩;obtain ⟨A3,k3,c3,rfl⟩:=qeS hv;have bw:=HB.o.size;have bt:=hb4.size;have H:zK (zB w4 (w4.alloc (.cells #[zL A3 k3 c3] 138))):=zV.alloc zn _
    have hu:NatP (w4.alloc (.cells #[zL A3 k3 c3] 138)) (fun b=>(Value.slice A8 k c8).ownBlock≠some b) (zL A3 k3 c3) x:=(hv.toP fun b X _ e=>by
     have:=(B.o.own_lt b e).2
     omega).of_blocks U2 fun k _ hk=>heap_alloc_old _ _ hk
    obtain⟨v6,w6,Q,ag,J,bu,bq⟩:=((B.o.grow hb4).grow H.o).append (b:=w4.heap.size) so (heap_alloc_new _ _) hu (by rw[List.length_take];omega);rw[<- bn.o] at ag;have a3:=zH Q;have bm:zK (RelTr w3 f v6 (Y ((k:Int)+1)) w6):=⟨k+1,by rw[t.o];omega,U3,ag,(HB.o.trans ((hb4.trans (H.o.mono bt)).mono bw)).trans J⟩;clear Q ag J bu bq hu hv hb4 H;go_wp2_with (at_builtin;refine qeU rfl _ (.tmp 37) 136 rfl rfl rfl a3.o ?_);go_roundw;case rel=>exact bm.o
    case measure=>simp[intOf];omega
  . (obtain rfl : k = s := by rw [t.o] at hk;omega);have ah:=B.o;rw [<- t.o,List.take_length] at ah;obtain ⟨A9,c9,e9,_,bj⟩:=ah.form;rw [t.o] at e9;injection e9 with e1 _ e3;subst e1;subst e3;have aw:=zH bj;have N:=zH (a9.o.grow HB.o);have O:=zH (ax.o wr N.o.2.1);have a2:=zH N.o.field;clear ah bj B HI HB a9 ax;go_wp2_with (refine wpList_load_mid rfl 24 (.tmp 41) rfl w.heap.size 0 rfl (C5 p m Am mod.length cm) _ a2.o underlying24 rfl fieldSize ?_);go_fit O.o;rintro e w5 ⟨⟨gb,rfl,hgb,hgf⟩,hb5⟩;have ba:=zH (N.o.grow hb5);have ay:=zH (az.o w5 gb hgf);have al:=zH (av.o _ T.o w5 A8 c8 f t.o (aw.o.grow hb5) U.o.1 U.o.2);clear hgf hgb hb5 O a2 N az av aw;go_wp2_with fail;go_fit ay.o;rintro e w' ⟨rfl,rfl⟩;go_wp2_with fail;go_fit al.o;rintro e w6 ⟨hc,J⟩;have bc:=zH (ba.o.grow J);clear J ay al ba;rcases hc with ⟨Ab,cb,d,rfl,b3,aa,Z,be⟩|⟨rfl,j,M⟩;rotate_left
    . exfalso;rw[T.o] at M;exact M (ap.o j)
    have bh:=T.o;obtain⟨b,o,rfl,bf,bg⟩:=id Z U0;clear bf bg;(have aj:zK (zC 116 #[zL (some (zA b (o+1))) (low-1) (cb-1),.func (.func 117) #[] #[]] w6 fun e w'=>e=.returned (.bool (decide (0<=nzIx ((d.drop 1).take (low-1)) 0)))/\w6=w'):=by(have P:((d.drop 1).take (low-1)).length=low-1:=by rw[List.length_take,List.length_drop];omega);have:=containsN_c ((d.drop 1).take (low-1)) (some (zA b (o+1))) (cb-1) w6 (natsAt_drop Z (low-1) U0) (by rw[P];omega);rw[P] at this;exact this);have H:=zH aa;have R:=zH be;clear Z be aa;have l0:(0:Int)<=(low:Int):=U0;have l1:(1:Int)<=(low:Int):=U0;have l2:(low:Int)<=(cb:Int):=U0;have E:zK (k=n+1):=bh;clear bh;go_wp2_with fail
    . exfalso;have:=E.out;omega
    go_fit aj.o;rintro e w' ⟨rfl,rfl⟩;have bp:zK (TP->decide (0<=nzIx ((d.drop 1).take (low-1)) 0)=false):=fun hp=>by
     (have hz:=bd.o hp d fun j M=>by have:=R.o j (by rw[E.out];exact M);rw[E.out] at this;exact this);refine decide_eq_false fun h=>?_;rw[nzIx_all _ 0 fun x hx=>?_] at h
     . omega
     . obtain⟨i,hi,rfl⟩:=List.mem_iff_getElem.1 hx;rw[List.length_take,List.length_drop] at hi;have bz:=H.o;have b1:=E.out;(have e:d[1+i]'U0=0:=by have:=hz (1+i) U0 U0;rwa [getD_at U0] at this);simpa[List.getElem_take,List.getElem_drop,Nat.add_comm] using e
    have bo:zK (decide (0<=nzIx ((d.drop 1).take (low-1)) 0)=false->TP):=fun hd=>a4.o d (fun j M=>by
     have:=R.o j (by rw[E.out];exact M)
     rw[E.out] at this
     exact this) fun j h1 h2=>by
     have V:=nzIx_none ((d.drop 1).take (low-1)) 0 (by have:=of_decide_eq_false hd;omega) (j-1)
     have e:((d.drop 1).take (low-1)).getD (j-1) 0=d.getD j 0:=by
      simp only[List.getD,List.getElem?_take,List.getElem?_drop]
      rw[if_pos U0,show 1+(j-1)=j by omega]
     rw[e] at V
     exact V
    clear aj a4 R bd ap ar;generalize decide (0<=nzIx ((d.drop 1).take (low-1)) 0)=bb at *;cases bb
    . have HQ:=zH (bo.o rfl);go_wp2;go_ret;exact⟨⟨true,rfl,fun _=>HQ.o,fun _=>rfl⟩,bc.o.2.1⟩
    . (have HQ:zK (¬TP):=fun h=>by cases bp.o h);go_wp2;go_ret;exact⟨⟨false,rfl,(fun h=>by cases h),fun h=>absurd h HQ.o⟩,bc.o.2.1⟩
end Go.Proofs.YtflejelbdlelpaaGreat
namespace Go.Proofs.YtflejelbdlelpaaGreat
open Go.RowKit Pln
namespace Al
section
variable {q:Nat} {O:Ops} {h:Fld q O}
theorem fnz_back:∀ l:LN,fnz l=0->∀ x∈l,x=0
 |[],_,x,hx=>by simp at hx
 | y :: r,hf,x,hx => by
   unfold fnz at hf
   by_cases hy:y=0
   . rw[if_pos hy] at hf
     rcases List.mem_cons.1 hx with rfl|hx
     . exact hy
     . exact fnz_back r hf x hx
   . rw[if_neg hy] at hf
     exact absurd hf hy
theorem wf_le2{n i j:Nat}{f:Nat->El q O h}(p:∀k,k<n->k≠i->k≠j->f k=0):wf n f<=(if i<n then 1 else 0)+if j<n then 1 else 0:=by
 induction n with
 |zero=>exact Nat.zero_le _
 |succ n b=>
  have b:=b fun k hk=>p k U0;show wf n f+(if(f n).n=0 then 0 else 1)<=_;have o:n≠i->n≠j->(if(f n).n=0 then 0 else 1)=0:=fun c h2=>by rw[p n U0 c h2];rfl
  have c:(if(f n).n=0 then 0 else 1)<=1:=by split<;>omega
  generalize (if(f n).n=0 then 0 else 1)=a at *;by_cases d:i<n<;>by_cases g:j<n<;>by_cases l:i<n+1<;>by_cases m:j<n+1<;>simp only[d,g,l,m,↓reduceIte] at b ⊢<;>omega
theorem sm_pick{n i:Nat}(b:i<n)(x:El q O h)(g:Nat->El q O h):sm n (fun k=>(if k=i then x else 0)*g k)=x*g i:=by have H:=El.fd (h:=h);rw[H.sm_one b fun k _ hk=>by rw[if_neg hk,H.zmul]];rw[if_pos rfl]
theorem inv_ne{x:Nat}(d:x<q)(f:x≠0):El.of h (O.inv x)≠0:=fun e=>by
 have H:=El.fd (h:=h)
 have c:=h.invL x d f
 have b:El.of h x*El.of h (O.inv x)=1:=by
  rw[<- El.of_mul d c,h.inv x d f,El.of_one]
 rw[e,H.mulZ] at b
 exact H.ne b.symm
theorem cols_back{n low:Nat}{rows:LL}(I:Grid q rows.length n rows)(D:∀r∈kerM O rows n,r.length=n/\∀x∈r,x<q)(J:MinW h n (canonM O rows n) low)(E:2<=low)(b:Bool)(K:b=true->3<=low):ColsOk O (kerM O rows n) n b:=by
 have H:=El.fd (h:=h);have C:=h.q1;have m:∀j,j<n->fnz (colOf (kerM O rows n) j)≠0:=fun j hj hf=>by
  have B:=fnz_back _ hf;have v:∀u∈kerM O rows n,sm n (fun k=>(if k=j then(1:El q O h) else 0)*wd h u k)=0:=fun u hu=>by rw[sm_pick hj,H.mulU];have e:u.getD j 0=0:=B _ (List.mem_map.2 ⟨u,hu,rfl⟩);unfold wd;rw[e,El.of_zero]
  have y:=wf_le2 (n:=n) (i:=j) (j:=n) (f:=fun k=>if k=j then(1:El q O h) else 0) fun k _ hk _=>if_neg hk;rw[if_pos hj,if_neg (Nat.lt_irrefl n)] at y;rcases J _ (dual_in I v) with h3|h3
  . have:=h3 j hj;simp only[↓reduceIte] at this;exact H.ne this
  . omega
 refine⟨m,fun hb1 i j hij hj e=>?_⟩;have l:i<n:=U0;have c:=fun k=>fnz_lt U0 (colOf (kerM O rows n) k) (col_lt U0 (fun r hr=>(D r hr).2) k);have p:=h.invL _ (c i) (m i l);have s:=h.invL _ (c j) (m j hj);have v:∀u∈kerM O rows n,sm n (fun k=>((if k=i then El.of h (O.inv (fnz (colOf (kerM O rows n) i))) else 0)+(if k=j then -El.of h (O.inv (fnz (colOf (kerM O rows n) j))) else 0))*wd h u k)=0:=fun u hu=>by
  rw[H.sm_congr (g:=fun k=>(if k=i then El.of h (O.inv (fnz (colOf (kerM O rows n) i))) else 0)*wd h u k+(if k=j then -El.of h (O.inv (fnz (colOf (kerM O rows n) j))) else 0)*wd h u k) fun k _=>H.rdist _ _ _,H.sm_add,sm_pick l,sm_pick hj];obtain⟨t,A,rfl⟩:=List.mem_iff_getElem.1 hu;have z:∀k,wd h (colOf (kerM O rows n) k) t=wd h (kerM O rows n)[t] k:=fun k=>by unfold wd colOf;rw[getD_at (by simpa using A),List.getElem_map]
  have d:=fun k=>col_lt (q:=q) U0 (fun r hr=>(D r hr).2) k;have o:wd h (normC O (colOf (kerM O rows n) i)) t=wd h (normC O (colOf (kerM O rows n) j)) t:=by rw[e]
  unfold normC at o;rw[wd_scale p (d i),wd_scale s (d j),z,z] at o;rw[o,H.negm,H.addN]
 have y:=wf_le2 (n:=n) (i:=i) (j:=j) (f:=fun k=>(if k=i then El.of h (O.inv (fnz (colOf (kerM O rows n) i))) else 0)+(if k=j then -El.of h (O.inv (fnz (colOf (kerM O rows n) j))) else 0)) fun k _ h1 E=>by rw[if_neg h1,if_neg E,H.zadd]
 rw[if_pos l,if_pos hj] at y;rcases J _ (dual_in I v) with h3|h3
 . have:=h3 i l;simp only[↓reduceIte] at this;rw[if_neg U0,H.zadd] at this;exact inv_ne (c i) (m i l) this
 . have:=K hb1;omega
end
end Al
end Go.Proofs.YtflejelbdlelpaaGreat
namespace Go.Proofs.YtflejelbdlelpaaGreat
open Go.RowKit Pln Go.Proofs.Tryz
open Al
theorem sms_none{q:Nat}{n:Nat}{φ:LN->Int}(h:∀m:LN,m.length=n->(∀x∈m,x<q)->φ m=0):sms q n φ=0:=by rw[qfS (ψ:=fun m=>(fun _=>(0:Int)) m*0) fun m h1 h2=>by rw[h m h1 h2,Int.mul_zero],sms_mul,Int.mul_zero]
theorem comb_in{q n:Nat}{O:Ops}{h:Fld q O}{rows:LL}(d:∀ r∈rows,Dv.Ok q n r){b:LN}(c:∀ x∈b,x<q):InC h n rows (wd h (Dv.combO O (List.replicate n 0) b rows))/\Dv.Ok q n (Dv.combO O (List.replicate n 0) b rows) :=
 (inC_lin n rows).comb (fun r h1=>⟨d r h1,InC.mem h1⟩) b (List.replicate n 0) c (Dv.zeros_ok (by have:=h.q1;omega)) (by
   rw[show wd h (List.replicate n 0)=fun _=>0 from funext fun j=>qeH _ _]
   exact(inC_lin n rows).zero)
theorem count_zero{q n low t:Nat}{O:Ops}{h:Fld q O}{rows:LL}(j:MinW h n rows low)(i:∀r∈rows,Dv.Ok q n r)(o:low<=n+1)(k:1<=t)(l:t<low):(cntW O q n rows).getD t 0=0:=by
 have d:=cntW_at (O:=O) (q:=q) (t:=t) (fun r h=>(i r h).1) (n:=n) U0;have f:wc q rows.length (fun m=>Dv.combO O (List.replicate n 0) m rows) t=0:=sms_none fun m _ hx=>by
  obtain⟨g,b⟩:=comb_in (h:=h) i hx;refine if_neg fun e=>?_;have c:=wf_wt (h:=h) b.2;rw[b.1,e] at c;rcases j _ g with h5|h5
  . rw[qcW h5] at c;omega
  . omega
 rw[f] at d;omega
theorem low_leaf{s:StD}(l:formZ s=0)(h:Leaf1 s):LowOk s:=fun hfl=>by
 have c:=form_is l
 have d:=field_ft c.field
 have k:=hfl.q1
 have j:=c.low1
 have b:∀r∈natR s.gen,Dv.Ok (s.p.toNat^s.m.toNat) s.n.toNat r:=fun r h=>c.grid.2 r h
 have f:OpsEq (s.p.toNat^s.m.toNat) (opsS s) (refOps s.p.toNat s.m.toNat (mdOf s.m s.mod)):=ops_eq d (mdOf_len c.field)
 refine minW_of b fun msg hl hm=>?_
 have e:cwO s.p.toNat s.m.toNat (mdOf s.m s.mod) s.n.toNat (natR s.gen) msg=Dv.combO (opsS s) (List.replicate s.n.toNat 0) msg (natR s.gen):=combO_eq f b msg _ hm (Dv.zeros_ok U0)
 have i:=leaf_law1 l h hm
 rw[e] at i
 by_cases g:Dv.wt (Dv.combO (opsS s) (List.replicate s.n.toNat 0) msg (natR s.gen))=0
 . exact .inl g
 . right
   have:=i g
   omega
theorem cols_low{s:StD}(g:formZ s=0)(h:LowOk s)(i:¬s.low=1):ColsOk (opsS s) (kerM (opsS s) (natR s.gen) s.n.toNat) s.n.toNat (decide (s.low=3)):=by have c:=form_is g;have b:Fld (s.p.toNat^s.m.toNat) (opsS s):=fld_of (field_ft c.field);have f:=c.low1;have d:=ker_grid b c.grid;exact cols_back c.grid d.2 (by rw[qgB g];exact h b) U0 _ fun hb=>by have:=of_decide_eq_true hb;omega
theorem itselfX_1(s:StD)(cs:List Value)(w:Wo)(hs:StC w w.heap.size s cs)(hf:formZ s=0)(hr:s.rule=1):
 zC 28 #[.agg cs.toArray] w (ItPostX w (LowOk s/\s.low<=3)):=by
 obtain⟨z,y,S,Q,R,T,U,Ar,V,At,B,A,Z,ca,cb,cp,cq,cr,I,ct,rfl,_,l,r,C,h4,h5⟩:=hs;have c:=form_is hf;have q:((s.n.toNat:Nat):Int)=s.n:=by have:=c.n1;omega
 have x:(natR s.gen).length=s.gen.length:=by unfold natR;rw[List.length_map]
 have M:s.mod.length<=1000000:=by
  have hs:=qeQ (by have h:=c.field;unfold fieldOK at h;rw[Bool.and_eq_true] at h;exact h.1:shapeM s.p s.m s.mod=true);by_cases L:s.m=1
  . rw[hs.one L];simp
  . rw[hs.len L];have:=hs.small.m2;omega
 have d:=zH (sb_new w (stCells s z y S Q R T U Ar V At B A Z ca cb cp cq cr I ct));have D:zK (∀W,zB w W->zC 44 #[C7 s.p s.m z s.mod.length B s.n y s.gen.length A,Y s.low] W (ColPostX W (opsS s) (kerM (opsS s) (natR s.gen) s.n.toNat) s.n.toNat (decide (s.low=3)))):=fun W hW=>by have J:=ker_grid (Al.fld_of (field_ft c.field)) c.grid;have h:=columns_x s.p s.m s.mod z B s.n.toNat (natR s.gen) y A s.low (kerM (opsS s) (natR s.gen) s.n.toNat) W ((l.keep hW).more hW.size) M (by rw[c.rows];exact(r.keep hW).more hW.size) (by rw[x];have:=c.len;omega) (by rw[c.rows,q];exact qbG hf) (by have:=c.n1;omega) (by have:=c.n2;omega) c.field (by rw[c.rows,q];exact form_err hf) rfl (by have:=J.1;have:=c.n2;unfold opsS;omega) J.2;rw[x,q] at h;exact h
 have HR:=zH hr;have N:zK (s.low<=3->ColsOk (opsS s) (kerM (opsS s) (natR s.gen) s.n.toNat) s.n.toNat (decide (s.low=3))->LowOk s/\s.low<=3):=fun l r=>⟨low_leaf hf (.inr ⟨l,r⟩),l⟩;have u:zK (s.low=1->LowOk s/\s.low<=3):=fun h=>⟨low_leaf hf (.inl h),U0⟩;have i:zK (¬s.low=1->LowOk s/\s.low<=3->ColsOk (opsS s) (kerM (opsS s) (natR s.gen) s.n.toNat) s.n.toNat (decide (s.low=3))):=fun l r=>cols_low hf r.1 l;have g:zK (¬s.low<=3->¬(LowOk s/\s.low<=3)):=fun l r=>l r.2;clear l r C h4 h5 c q hr hf x M;generalize (LowOk s/\s.low<=3)=X at *;go_enter func28,ntmps28;go_upto_region 1 with fail;generalize w.alloc (.cells (stCells s z y S Q R T U Ar V At B A Z ca cb cp cq cr I ct).toArray 37)=k at *;have y0:k.cell? (zA w.heap.size 0)=some (Y 1):=by rw[<- HR.o];exact d.o.cell rfl
 have y6:k.cell? (zA w.heap.size 6)=some (Y s.low):=d.o.cell rfl;have aa:zK (k.rangeAt w.heap.size 1 (C3 s.p s.m z s.mod.length B s.n y s.gen.length A)):=d.o.sub 1 _ (fun j hj=>by rcases j with _|_|_|_|_|j<;>first|rfl|(simp at hj;omega));have f:=zH (D.o k d.o.2.1);clear D;by_cases v:s.low=1
 . have e1:(s.low==1)=true:=beq_iff_eq.2 v;have E:=zH (u.o v);clear v f N i g;generalize s.low=low at *;go_wp2;go_ret;exact⟨⟨true,rfl,(fun _=>E.o),fun _=>rfl⟩,d.o.2.1⟩
 have e1:(s.low==1)=false:=beq_false_of_ne v;by_cases C:s.low<=3;rotate_left
 . have E:=zH (g.o C);clear v f N u i g;generalize s.low=low at *;have e3:decide (low<=3)=false:=decide_eq_false C;go_wp2;go_ret;exact⟨⟨false,U4,(fun h=>by cases h),fun h=>absurd h E.o⟩,d.o.2.1⟩
 have E:=zH (N.o C);have e3:decide (s.low<=3)=true:=decide_eq_true C;have P:=zH (i.o v);clear v N u i g;generalize kerM (opsS s) (natR s.gen) s.n.toNat=K at *;generalize s.low=low at *;have y1:k.cell? (zA w.heap.size 1)=some (Y s.p):=d.o.cell rfl;have y2:k.cell? (zA w.heap.size 2)=some (Y s.m):=d.o.cell rfl;have y3:k.cell? (zA w.heap.size 3)=some (zL z s.mod.length B):=d.o.cell rfl;have y4:k.cell? (zA w.heap.size 4)=some (Y s.n):=d.o.cell rfl;have y5:k.cell? (zA w.heap.size 5)=some (zL y s.gen.length A):=d.o.cell rfl;go_wp2_with fail;go_fit f.o;rintro e w1 ⟨⟨b,rfl,hb,hc⟩,hb1⟩;have H:=zH (d.o.grow hb1);have t:=zH hb;have O:=zH hc;clear hb1 hb hc f y0 y1 y2 y3 y4 y5 y6;cases b
 . (have HN:zK (¬X):=fun h=>by cases O.o (P.o h));go_wp2;go_ret;exact⟨⟨false,rfl,(fun h=>by cases h),fun h=>absurd h HN.o⟩,H.o.2.1⟩
 . have HF:zK X:=E.o (by first|exact t.o rfl|exact t.o trivial|exact t.o);go_wp2;go_ret;exact⟨⟨true,rfl,(fun _=>HF.o),fun _=>rfl⟩,H.o.2.1⟩
theorem itselfX_16(s:StD)(cs:List Value)(w:Wo)(hs:StC w w.heap.size s cs)(X:formZ s=0)(Z:s.rule=16)(V:(s.p.toNat^s.m.toNat)^(kerM (opsS s) (natR s.gen) s.n.toNat).length<=65536):
 zC 28 #[.agg cs.toArray] w (ItPostX w (LowOk s)):=by
 obtain⟨d,c,z,x,y,A,B,Ar,C,At,i,g,D,ca,cb,cp,E,H,q,I,rfl,_,J,K,N,O,P⟩:=hs;have S:=step_w X;have f:=zH (sb_new w (stCells s d c z x y A B Ar C At i g D ca cb cp E H q I));have l:zK (∀W,zB w W->zC 51 #[C7 s.p s.m d s.mod.length i s.n c s.gen.length g,Y s.low] W (ItPostX W (LowOk s))):=fun W hW=>by have h:=transform_x s.p s.m s.mod s.n.toNat (natR s.gen) d c i g s.low.toNat W ((J.keep hW).more hW.size) S.mod (by rw[S.gen];exact(K.keep hW).more hW.size) (by have:=S.rl;omega) S.fld S.code S.err S.n1 S.n2 S.grid S.l1 S.l2 (qgB X) V;rw[S.len,S.n,S.low] at h;exact h.mono fun e w' ⟨⟨b,he,hq,hq2⟩,hb⟩=>⟨⟨b,he,(fun h0=>low_min X (hq h0)),fun h0=>hq2 (h0 _)⟩,hb⟩
 have M:=zH Z;clear J K N O P S Z X V;generalize LowOk s=T at *;go_enter func28,ntmps28;go_upto_region 1 with fail;generalize w.alloc (.cells (stCells s d c z x y A B Ar C At i g D ca cb cp E H q I).toArray 37)=r at *;have Q:r.cell? (zA w.heap.size 0)=some (Y 16):=by rw[<- M.o];exact f.o.cell rfl
 have R:r.cell? (zA w.heap.size 6)=some (Y s.low):=f.o.cell rfl;have u:zK (r.rangeAt w.heap.size 1 (C3 s.p s.m d s.mod.length i s.n c s.gen.length g)):=f.o.sub 1 _ (fun j hj=>by rcases j with _|_|_|_|_|j<;>first|rfl|(simp at hj<;>omega));have k:=zH (l.o r f.o.2.1);clear l;go_wp2_with (first|(refine wpList_load_mid rfl 27 (.tmp 130) rfl w.heap.size 1 rfl (C3 s.p s.m d s.mod.length i s.n c s.gen.length g) _ u.o underlying27 rfl codeSize ?_));go_fit k.o;rintro e U ⟨⟨b,rfl,hq,hq2⟩,hb1⟩;have v:=zH (f.o.grow hb1);have L:=zH hq;have t:=zH hq2;clear hb1 hq hq2 k Q R f;go_wp2;go_ret;exact⟨⟨_,rfl,L.o,t.o⟩,v.o.2.1⟩
theorem itselfX_15(s:StD)(cs:List Value)(w:Wo)(hs:StC w w.heap.size s cs)(hf:formZ s=0)(hr:s.rule=15)(ac:(s.p.toNat^s.m.toNat)^s.gen.length<=65536):
 zC 28 #[.agg cs.toArray] w (ItPostX w (LowOk s)):=by
 obtain⟨f,d,Q,O,P,R,T,Ar,U,At,r,q,cf,ca,cb,cp,cq,cr,u,ct,rfl,_,I,J,M,h4,h5⟩:=hs;have S:=step_w hf;have H:=zH (sb_new w (stCells s f d Q O P R T Ar U At r q cf ca cb cp cq cr u ct));have k:zK ((cntW (opsT s.p.toNat s.m.toNat (lOf s.p s.m s.mod)) (s.p.toNat^s.m.toNat) s.n.toNat (natR s.gen)).length=s.n.toNat+1):=cntW_len _ _ _ _;have y:zK (∀W,zB w W->zC 48 #[C7 s.p s.m f s.mod.length r s.n d s.gen.length q] W (WtPost W s.n.toNat (cntW (opsT s.p.toNat s.m.toNat (lOf s.p s.m s.mod)) (s.p.toNat^s.m.toNat) s.n.toNat (natR s.gen)) ((s.p.toNat^s.m.toNat)^s.gen.length<=65536))):=fun W hW=>by have h:=weights_c s.p s.m s.mod s.n.toNat (natR s.gen) f d r q W ((I.keep hW).more hW.size) S.mod (by rw[S.gen];exact(J.keep hW).more hW.size) (by have:=S.rl;omega) S.fld S.code S.n1 S.n2 S.grid.2;rw[S.len,S.n] at h;exact h
 have C:zK ((∀t,1<=t->t<s.low.toNat->(cntW (opsT s.p.toNat s.m.toNat (lOf s.p s.m s.mod)) (s.p.toNat^s.m.toNat) s.n.toNat (natR s.gen)).getD t 0=0)->LowOk s):=count_low hf;have A:zK (LowOk s->∀t,1<=t->t<s.low.toNat->(cntW (opsT s.p.toNat s.m.toNat (lOf s.p s.m s.mod)) (s.p.toNat^s.m.toNat) s.n.toNat (natR s.gen)).getD t 0=0):=fun hm t I J=>count_zero (hm (fld_of (field_ft S.fld))) S.grid.2 (by have:=S.l2;omega) I J;have X:=zH ac;have HR:=zH hr;have s1:=S.l1;have s2:=S.l2;have s3:=S.n2;have s4:=S.n1;have E:=zH S.low;clear I J M h4 h5 S hr hf ac;generalize LowOk s=LF at *;generalize ((s.p.toNat^s.m.toNat)^s.gen.length<=65536)=OK at *;generalize cntW (opsT s.p.toNat s.m.toNat (lOf s.p s.m s.mod)) (s.p.toNat^s.m.toNat) s.n.toNat (natR s.gen)=L at *;go_enter func28,ntmps28;go_upto_region 1 with fail;generalize w.alloc (.cells (stCells s f d Q O P R T Ar U At r q cf ca cb cp cq cr u ct).toArray 37)=W0 at *;have y0:W0.cell? (zA w.heap.size 0)=some (Y 15):=by rw[<- HR.o];exact H.o.cell rfl
 have D:zK (W0.rangeAt w.heap.size 1 (C3 s.p s.m f s.mod.length r s.n d s.gen.length q)):=H.o.sub 1 _ (fun j hj=>by rcases j with _|_|_|_|_|j<;>first|rfl|(simp at hj<;>omega));have v:=zH (y.o W0 H.o.2.1);have B:zK (∀W,SB w w.heap.size (stCells s f d Q O P R T Ar U At r q cf ca cb cp cq cr u ct) W->W.cell? (zA w.heap.size 6)=some (Y (s.low.toNat:Int))):=fun W h=>by rw[E.o];exact h.cell rfl
 clear y E;generalize s.low.toNat=low at *;generalize hN:s.n.toNat=N at *;clear hN;go_wp2_with (first|(refine wpList_load_mid rfl 27 (.tmp 113) rfl w.heap.size 1 rfl (C3 s.p s.m f s.mod.length r s.n d s.gen.length q) _ D.o underlying27 rfl codeSize ?_));go_fit v.o;rintro e K ⟨hc,hb1⟩;have l:=zH (H.o.grow hb1);clear hb1 v y0 H;rcases hc with⟨z,hz,ab,rfl⟩|⟨g,_,rfl,hg,hI⟩
 . exact absurd X.o ab
 have y6:K.cell? (zA w.heap.size 6)=some (Y (low:Int)):=B.o K l.o;have V:zK (zC 49 #[zL (some (zA g 1)) (low-1) N,.func (.func 50) #[] #[]] K fun e w'=>e=.returned (.bool (decide (0<=nzIx ((L.drop 1).take (low-1)) 0)))/\K=w'):=by
  have c:((L.drop 1).take (low-1)).length=low-1:=by rw[List.length_take,List.length_drop,k.o];omega
  have:=containsnz_c ((L.drop 1).take (low-1)) (some (zA g (0+1))) N K (ints_drop hI (low-1) (by rw[k.o];omega)) (by rw[c];omega);rw[c] at this;exact this
 have Z:zK (decide (0<=nzIx ((L.drop 1).take (low-1)) 0)=false->LF):=fun hd=>C.o fun t I J=>by
  have M:=nzIx_none ((L.drop 1).take (low-1)) 0 (by have:=of_decide_eq_false hd;omega) (t-1);have e:((L.drop 1).take (low-1)).getD (t-1) 0=L.getD t 0:=by simp only[List.getD,List.getElem?_take,List.getElem?_drop];rw[if_pos U0,show 1+(t-1)=t by omega]
  rw[e] at M;exact M
 have aa:zK (LF->decide (0<=nzIx ((L.drop 1).take (low-1)) 0)=false):=fun hp=>by
  have hz:=A.o hp;refine decide_eq_false fun h=>?_;rw[nzIx_all _ 0 fun x hx=>?_] at h
  . omega
  . obtain⟨i,hi,rfl⟩:=List.mem_iff_getElem.1 hx;rw[List.length_take,List.length_drop] at hi;(have e:L[1+i]'U0=0:=by have:=hz (1+i) U0 U0;rwa [getD_at U0] at this);simpa[List.getElem_take,List.getElem_drop,Nat.add_comm] using e
 have l0:(0:Int)<=(low:Int):=U0;have l1:(1:Int)<=(low:Int):=U0;have l2:(low:Int)<=(N:Int)+1:=U0;have j1:∀a b:OA,(if N=0 then a else b)=b:=fun a b=>if_neg U0;clear hI k hg B C A D;generalize decide (0<=nzIx ((L.drop 1).take (low-1)) 0)=bb at *;go_wp2_with fail;go_fit V.o;rintro e w' ⟨rfl,rfl⟩;cases bb
 . have HQ:=zH (Z.o rfl);go_wp2;go_ret;exact⟨⟨true,rfl,(fun _=>HQ.o),fun _=>rfl⟩,l.o.2.1⟩
 . (have HN:zK (¬LF):=fun h=>by cases aa.o h);go_wp2;go_ret;exact⟨⟨false,rfl,(fun h=>by cases h),fun h=>absurd h HN.o⟩,l.o.2.1⟩
end Go.Proofs.YtflejelbdlelpaaGreat
namespace Go.Proofs.YtflejelbdlelpaaGreat
open Go.RowKit Pln Go.Proofs.Tryz
theorem cn_back{p m:Int}{mod:LI}{N:Int}{zs:List LI}{k v:Int}(h:cnV p m mod N zs k=v)(l:¬ v=0):codeZ p m mod N zs=0/\(p.toNat ^ m.toNat) ^ zs.length<=65536/\(((p.toNat ^ m.toNat) ^ zs.length:Nat):Int)<=k/\v=(((p.toNat ^ m.toNat) ^ zs.length:Nat):Int):=by
 have c:codeZ p m mod N zs=0:=Classical.byContradiction fun c=>by unfold cnV szE at h;rw[if_pos c,if_pos (.inl c)] at h;exact l h.symm
 have i:szE p m mod N zs=expE (p.toNat^m.toNat) zs.length:=by unfold szE;rw[if_neg (fun h=>h c)]
 have j:szV p m mod N zs=expV (p.toNat^m.toNat) zs.length:=by unfold szV;rw[if_neg (fun h=>h c)]
 unfold cnV at h;rw[i,j] at h;by_cases d:expE (p.toNat^m.toNat) zs.length≠0\/k<expV (p.toNat^m.toNat) zs.length
 . rw[if_pos d] at h;exact absurd h.symm l
 . rw[if_neg d] at h;have f:¬expE (p.toNat^m.toNat) zs.length≠0:=fun h=>d (.inl h);have g:¬k<expV (p.toNat^m.toNat) zs.length:=fun h=>d (.inr h);unfold expE at f;by_cases b:(p.toNat^m.toNat)^zs.length<=65536
   . unfold expV at h g;rw[if_pos b] at h g;exact⟨c,b,U0,h.symm⟩
   . rw[if_neg b] at f;exact absurd (show(8:Int)≠0 by decide) f
theorem prem_s(r:Int)(b:r=1\/r=15\/r=16)(w:Wo):zC 19 #[Y r] w fun e w'=>e=.returned (Y 0)/\w=w':=by
 rcases b with rfl|rfl|rfl
 all_goals
  go_enter func19,ntmps19
  go_wp2
  go_ret
  exact⟨rfl,rfl⟩
theorem step_s(r low p m n:Int)(mod:LI)(c:List LI)(d Ag:OA)(h cg b:Nat)(w:Wo)(i:Bool)(P:Prop)(g:i=true ↔ P)(v:r=1\/r=15\/r=16)(u:formZ (stepS r low p m n mod c)=0)(t:zI w d mod)(o:mod.length<=maxLen)(s:zR w Ag c)(k:c.length<=maxLen)(f:c.length<=cg)(q:w.rangeAt b 0 (stepC r low p m n mod c d Ag h cg))(j:b<w.heap.size)(l:∀ W:Wo,StC W W.heap.size (stepS r low p m n mod c) (stepC r low p m n mod c d Ag h cg)->zC 28 #[.agg (stepC r low p m n mod c d Ag h cg).toArray] W (ItPostX W P)):
 zC 10 #[zS b 1 1,Y 0] w (ChkPost i w):=
 checkstep_s r low p m n mod c d Ag h cg (prem_s r v) U0 U0 U0 U0 u b 0 w q j t o s k f i fun W hW =>
  (l W (step_stc f ((t.keep hW).more hW.size) ((s.keep hW).more hW.size))).mono fun e w' ⟨⟨b,he,h1,h2⟩,hb⟩=>⟨by
    rw[he]
    cases b<;>cases i
    . rfl
    . cases h2 (g.1 rfl)
    . cases g.2 (h1 rfl)
    . rfl,hb⟩
end Go.Proofs.YtflejelbdlelpaaGreat
