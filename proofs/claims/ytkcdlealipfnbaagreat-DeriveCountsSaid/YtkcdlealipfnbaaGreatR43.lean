/- Parts of the proof. -/
import Derived.Test.YtkcdlealipfnbaaGreatR35
import Derived.Test.YtkcdlealipfnbaaGreatR42
set_option maxRecDepth 100000
set_option maxHeartbeats 8000000
namespace Go.Proofs.YtkcdlealipfnbaaGreat
open Go.RowKit Pln
open Al
theorem mix_row(O:Ops)(a:Nat):∀ {u r:LN},u.length=r.length->List.zipWith (mixF O a) u r=if a=0 then u else addRow O u a r
 |[],[],_=>by unfold addRow;split<;>rfl
 | y :: u,x :: r,h => by
   have ih:=mix_row O a (u:=u) (r:=r) (by simpa using h)
   rw[List.zipWith_cons_cons,ih]
   unfold mixF addRow
   by_cases b:a=0
   . rw[if_pos (.inl b),if_pos b,if_pos b]
   . rw[if_neg b,if_neg b,List.zipWith_cons_cons]
     congr 1
     by_cases c:x=0
     . rw[if_pos (.inr c),if_pos c]
     . rw[if_neg (fun h=>h.elim b c),if_neg c]
theorem sum_range{α:Type}(f:Nat->List α)(φ:α->Int):∀ q,(((List.range q).flatMap f).map φ).sum=zs q fun a=>((f a).map φ).sum
 |0=>rfl
 |q + 1=>by
   rw[range_snoc,List.map_append,List.sum_append,sum_range f φ q]
   rfl
theorem wl_sum{O:Ops}{q n:Nat}(φ:LN->Int):∀ (rs:LL)(u:LN),(∀ r∈rs,r.length=n)->u.length=n->((wl O q rs u).map φ).sum=sms q rs.length fun m=>φ (Dv.combO O u m rs)
 |[],u,_,_=>by simp[wl,sms,Dv.combO]
 |r :: rs,u,hr,hu=>by
   show(((List.range q).flatMap _).map φ).sum=zs q _
   rw[sum_range]
   refine qeX fun a _=>?_
   have hrl:=hr r (List.mem_cons_self ..)
   rw[wl_sum φ rs _ (fun r' h'=>hr r' (List.mem_cons_of_mem _ h')) (by rw[List.length_zipWith,hu,hrl,Nat.min_self])]
   rw[mix_row O a (by rw[hu,hrl])]
   rfl
theorem wl_mem{O:Ops}{q n:Nat}:∀ (rs:LL)(u m:LN),(∀ r∈rs,r.length=n)->u.length=n->m.length=rs.length->(∀ x∈m,x<q)->Dv.combO O u m rs∈wl O q rs u
 |[],u,[],_,_,_,_=>by simp[wl,Dv.combO]
 |[],u,_ :: _,_,_,h,_=>by simp at h
 |r :: rs,u,[],_,_,h,_=>by simp at h
 |r :: rs,u,a :: m,hr,hu,hm,hx=>by
   have hrl:=hr r (List.mem_cons_self ..)
   refine List.mem_flatMap.2 ⟨a,List.mem_range.2 (hx a (List.mem_cons_self ..)),?_⟩
   have:=wl_mem (O:=O) (q:=q) rs (List.zipWith (mixF O a) u r) m (fun r' h'=>hr r' (List.mem_cons_of_mem _ h')) (by rw[List.length_zipWith,hu,hrl,Nat.min_self]) (by simpa using hm) (fun x h=>hx x (List.mem_cons_of_mem _ h))
   rw[mix_row O a (by rw[hu,hrl])] at this
   rw[mix_row O a (by rw[hu,hrl])]
   exact this
theorem filter_sum{α:Type}(P:α->Bool):∀ L:List α,((L.filter P).length:Int)=(L.map fun u=>if P u=true then (1:Int) else 0).sum
 |[]=>rfl
 | x :: L => by
   rw[List.map_cons,List.sum_cons,<- filter_sum P L,List.filter_cons]
   by_cases h:P x=true
   . rw[if_pos h,if_pos h,List.length_cons]
     omega
   . rw[if_neg h,if_neg h,Int.zero_add]
def cntW(O:Ops)(q n:Nat)(rows:LL):LN:=cntL (wl O q rows (List.replicate n 0)) n (wl O q rows (List.replicate n 0)).length
theorem cntW_at{O:Ops}{q n t:Nat}{rows:LL}(b:∀r∈rows,r.length=n)(c:t<=n):(((cntW O q n rows).getD t 0:Nat):Int)=wc q rows.length (fun m=>Dv.combO O (List.replicate n 0) m rows) t:=by unfold cntW wc;rw[cntL_at c,List.take_length,filter_sum,wl_sum (n:=n) _ rows _ b List.length_replicate];refine qfS fun m _ _=>?_;simp only[beq_iff_eq]
theorem cntW_pos{O:Ops}{q n:Nat}{rows:LL}{m:LN}(f:∀r∈rows,r.length=n)(d:m.length=rows.length)(h:∀x∈m,x<q)(g:Dv.wt (Dv.combO O (List.replicate n 0) m rows)<=n):(cntW O q n rows).getD (Dv.wt (Dv.combO O (List.replicate n 0) m rows)) 0≠0:=by unfold cntW;rw[cntL_at g,List.take_length];have b:=wl_mem (O:=O) (q:=q) rows (List.replicate n 0) m f List.length_replicate d h;have c:Dv.combO O (List.replicate n 0) m rows∈(wl O q rows (List.replicate n 0)).filter fun u=>Dv.wt u==Dv.wt (Dv.combO O (List.replicate n 0) m rows):=List.mem_filter.2 ⟨b,U2⟩;exact Nat.ne_of_gt (List.length_pos_of_mem c)
theorem law_count{q n low:Nat}{O:Ops}{h:Fld q O}{rows:LL}(g:∀ r∈rows,Dv.Ok q n r)(i:∀ t,1<=t->t<low->(cntW O q n rows).getD t 0=0):MinW h n rows low:=by
 refine minW_of g fun msg hl hm=>?_;have b:=comb_ok h (rows:=rows) msg (List.replicate n 0) g hm (Dv.zeros_ok (by have:=h.q1;omega));have f:Dv.wt (Dv.combO O (List.replicate n 0) msg rows)<=n:=by exact Nat.le_trans (rwt_le _) (Nat.le_of_eq b.1)
 have d:=cntW_pos (O:=O) (q:=q) (fun r h=>(g r h).1) hl hm f;by_cases c:Dv.wt (Dv.combO O (List.replicate n 0) msg rows)=0
 . exact .inl c
 . right;rcases Nat.lt_or_ge (Dv.wt (Dv.combO O (List.replicate n 0) msg rows)) low with h1|h1
   . exact absurd (i _ U0 h1) d
   . exact h1
theorem dl_sm{q:Nat}{O:Ops}{h:Fld q O}:∀ {c v:LN},c.length=v.length->dl h c v=sm c.length fun j=>wd h v j*wd h c j
 |[],[],_=>rfl
 |x :: c,y :: v,hl=>by
   rw[List.length_cons,qdH]
   show El.of h y*El.of h x+dl h c v=_
   rw[dl_sm (c:=c) (v:=v) (by simpa using hl)]
   rfl
theorem dl_comb{q n:Nat}{O:Ops}{h:Fld q O}{v:LN}(s:v.length=n):∀ (rows:LL)(m u:LN),(∀ r∈rows,Dv.Ok q n r)->m.length=rows.length->(∀ x∈m,x<q)->Dv.Ok q n u->dl h (Dv.combO O u m rows) v=dl h u v+ls h m (rows.map fun r=>dl h r v)
 |[],[],u,_,_,_,_=>((El.fd (h:=h)).zadd _).symm
 |[],_ :: _,_,_,hl,_,_=>by simp at hl
 |_ :: _,[],_,_,hl,_,_=>by simp at hl
 | r :: rs,a :: m,u,hr,hl,hx,hu => by
   have H:=El.fd (h:=h)
   have b:=hr r (List.mem_cons_self ..)
   have f:=hx a (List.mem_cons_self ..)
   have c:=mix_ok h f hu b
   have l:(if a=0 then u else addRow O u a r)=List.zipWith (mixF O a) u r:=(mix_row O a (by rw[hu.1,b.1])).symm
   show dl h (Dv.combO O (if a=0 then u else addRow O u a r) m rs) v=dl h u v+(El.of h a*dl h r v+ls h m (rs.map fun r=>dl h r v))
   rw[l,dl_comb s rs m _ (fun r' h'=>hr r' (List.mem_cons_of_mem _ h')) (by simpa using hl) (fun x h'=>hx x (List.mem_cons_of_mem _ h')) c,<- H.addA]
   congr 1
   rw[dl_sm (by rw[c.1,s]),dl_sm (by rw[hu.1,s]),dl_sm (by rw[b.1,s]),c.1,hu.1,b.1]
   have o:sm n (fun j=>wd h v j*wd h (List.zipWith (mixF O a) u r) j)=sm n fun j=>wd h v j*wd h u j+El.of h a*(wd h v j*wd h r j):=H.sm_congr fun j hj=>by
    have i:j<u.length:=by rw[hu.1];exact hj
    have g:j<r.length:=by rw[b.1];exact hj
    have p:wd h (List.zipWith (mixF O a) u r) j=wd h u j+El.of h a*wd h r j:=by
     unfold wd
     rw[show(List.zipWith (mixF O a) u r).getD j 0=mixF O a (u.getD j 0) (r.getD j 0) by simp[List.getD,List.getElem?_zipWith,i,g]]
     have k:u.getD j 0<q:=getD_ok hu.2 (by have:=h.q1;omega) j
     have d:r.getD j 0<q:=getD_ok b.2 (by have:=h.q1;omega) j
     unfold mixF
     split
     . rename_i h0
       rcases h0 with h0|h0
       . rw[h0,El.of_zero,H.zmul,H.zadd]
       . rw[h0,El.of_zero,H.mulZ,H.zadd]
     . rw[El.of_add k (h.mulL _ _ f d),El.of_mul f d]
    rw[p,H.dist]
    congr 1
    rw[<- H.mulA,H.mulC (wd h v j),H.mulA]
   rw[o,H.sm_lin]
theorem law_trans{q n low:Nat}{O:Ops}{h:Fld q O}{rows K:LL}(B:∀r∈rows,Dv.Ok q n r)(z:∀r∈K,Dv.Ok q n r)(D:∀u∈K,∀g∈rows,sm n (fun j=>wd h g j*wd h u j)=0)(A:LN)(C:∀j,j<n+1->(A.getD j 0:Int)*(cntW O q n K).sum=trO q n (natZ (cntW O q n K)) j (n+1))(E:∀j,1<=j->j<low->A.getD j 0=0):MinW h n rows low:=by
 have H:=El.fd (h:=h);have s:=h.q1;refine minW_of B fun msg hl hm=>?_;have L:LinF q O h fun f=>∀u∈K,sm n (fun j=>f j*wd h u j)=0:=by
  refine⟨fun g _=>H.sm_zero fun j _=>H.zmul _,fun f g a hf hg u hu=>?_⟩;have e:sm n (fun j=>(f j+a*g j)*wd h u j)=sm n (fun j=>f j*wd h u j+a*(g j*wd h u j)):=H.sm_congr fun j _=>by rw[H.rdist,H.mulA]
  rw[e,H.sm_lin,hf u hu,hg u hu,H.mulZ,H.addZ]
 obtain⟨p,b⟩:=L.comb (fun r hm=>⟨B r hm,fun u hu=>D u hu r hm⟩) msg (List.replicate n 0) hm (Dv.zeros_ok U0) (by
  rw[show wd h (List.replicate n 0)=fun _=>0 from funext fun j=>qeH _ _]
  exact L.zero)
 generalize t:Dv.combO O (List.replicate n 0) msg rows=v at *;have y:Dv.wt v<=n:=Nat.le_trans (rwt_le _) (Nat.le_of_eq b.1);by_cases l:Dv.wt v=0
 . exact .inl l
 right;rcases Nat.lt_or_ge (Dv.wt v) low with h1|h1;rotate_left
 . exact h1
 exfalso;have k:∀m:LN,m.length=K.length->(∀x∈m,x<q)->Dv.Ok q n (Dv.combO O (List.replicate n 0) m K):=fun m _ hx=>comb_ok h m (List.replicate n 0) z hx (Dv.zeros_ok U0)
 have c:=mac_pos (h:=h) (n:=n) (rows:=K) (fun m=>Dv.combO O (List.replicate n 0) m K) (fun m hml hmx=>⟨k m hml hmx,fun u hu=>by
  rw[dl_comb hu K m _ z hml hmx (Dv.zeros_ok U0),dl_sm (by rw[List.length_replicate,hu]),H.sm_zero fun j _=>by rw[qeH,H.mulZ],H.addZ]⟩) b (fun r hm=>by
  rw[dl_sm (by rw[(z r hm).1,b.1]),(z r hm).1]
  exact p r hm)
 rw[sms_gk (n:=n) fun m hml hmx=>(k m hml hmx).1] at c;have d:=C (Dv.wt v) U0;rw[E _ U0 h1] at d;have o:trO q n (natZ (cntW O q n K)) (Dv.wt v) (n+1)=zs (n+1) fun i=>wc q K.length (fun m=>Dv.combO O (List.replicate n 0) m K) i*tb q n i (Dv.wt v):=qeX fun i hi=>by rw[natZ_at,cntW_at (fun r h=>(z r h).1) U0]
 rw[<- o,<- d] at c;simp at c
end Go.Proofs.YtkcdlealipfnbaaGreat
namespace Go.Proofs.YtkcdlealipfnbaaGreat
open Go.RowKit Pln Go.Proofs.Tryz
open Al
theorem nzIx_none:∀ (v:LN)(k:Nat),nzIx v k<0->∀ j,v.getD j 0=0
 |[],_,_,j=>by simp[List.getD]
 | x :: r,k,h,j => by
   unfold nzIx at h
   split at h
   . rename_i hx
     cases j with
     |zero=>simpa[List.getD] using hx
     |succ j=>simpa[List.getD] using nzIx_none r (k+1) h j
   . omega
theorem trans1_c(A:OA)(k c:Nat)(W:Wo):zC 122 #[zL A k c] W fun e w'=>e=.returned (.bool (decide (0<k)))/\W=w':=by go_enter func122,ntmps122;go_wp2;go_ret;exact⟨rfl,rfl⟩
theorem indexN_c(Ns:LN)(A:OA)(c:Nat)(w:Wo)(I:NatsAt w A Ns)(J:Ns.length<=1000):
 zC 174 #[zL A Ns.length c,.func (.func 122) #[] #[]] w fun e w'=>e=.returned (Y (nzIx Ns 0))/\w=w':=by
 have t:=zH I;have g:zK (RelNx Ns w (nzIx Ns 0) (Y ((0:Nat):Int)) w):=⟨0,U0,rfl,rfl,rfl⟩;have B:∀(args:Array Value)(W:Wo),(callFunc 122 args).run prog W=.ok (.enter 122 args) W:=enters_of func122 U1 rfl;clear I;generalize nzIx Ns 0=r at *;go_enter func174,ntmps174;go_wp2;go_loopw [8] (fun v8 wr=>RelNx Ns w r v8 wr) (fun v8 _=>Ns.length-(intOf v8).toNat);case atStart=>exact g.o
 case round =>
  obtain⟨k,C,rfl,i,rfl⟩:=hrel;clear g;by_cases h:k<Ns.length
  . obtain ⟨b,o,rfl,z,p⟩ := t.o U0;obtain ⟨v,D,n⟩:=p k h;obtain ⟨s,q,u,rfl⟩:=qeS n;have l:=natV_len n;have E:(0:Int)<=(k:Int):=U0;have H:(k:Int)<(Ns.length:Int):=U0;have y:IntKind.i64.wrap ((k:Int)+1)=(k:Int)+1:=IntWalk.i64_in _ U0;(have d:zK ((if Ns.getD k 0=0 then nzIx (Ns.drop (k+1)) (k+1) else (k:Int))=r):=by rw [<- nzIx_step h];exact i);clear i n p;have j:=zH (trans1_c s q u wr);generalize Ns.getD k 0=x at *;by_cases f:x=0
    . rw[if_pos f] at d;have m:=l.2 f;subst m;have hd:decide (0<0)=false:=rfl;rw[hd] at j;clear l f hd;go_wp2_with fail;refine j.o.mono ?_;rintro e w' ⟨rfl,rfl⟩;go_wp2;go_roundw;case rel=>exact⟨k+1,U0,U3,d.o,rfl⟩
      case measure=>simp[intOf];omega
    . rw[if_neg f] at d;have hd:decide (0<q)=true:=decide_eq_true (by have:=mt l.1 f;omega);rw[hd] at j;clear l f hd;go_wp2_with fail;refine j.o.mono ?_;rintro e w' ⟨rfl,rfl⟩;go_wp2;go_ret;have e:=d.o;exact⟨by rw[<- e];rfl,rfl⟩
  . (obtain rfl:k=Ns.length:=by omega);(have d:zK ((-1:Int)=r):=by rw[List.drop_eq_nil_of_le zn] at i;exact i);clear i;go_wp2;go_ret;have e:=d.o;exact⟨by rw[<- e];rfl,rfl⟩
theorem containsN_c(Ns:LN)(A:OA)(c:Nat)(w:Wo)(d:NatsAt w A Ns)(f:Ns.length<=1000):
 zC 121 #[zL A Ns.length c,.func (.func 122) #[] #[]] w fun e w'=>e=.returned (.bool (decide (0<=nzIx Ns 0)))/\w=w':=by have b:=zH (indexN_c Ns A c w d f);clear d;generalize nzIx Ns 0=r at *;go_enter func121,ntmps121;go_wp2_with fail;refine b.o.mono ?_;rintro e w' ⟨rfl,rfl⟩;go_wp2;go_ret;exact⟨rfl,rfl⟩
theorem sum_one(w:Nat)(f:Nat->Nat):∀ m,((List.range m).map fun t=>f t+if w=t then 1 else 0).sum=((List.range m).map f).sum+if w<m then 1 else 0
 |0=>rfl
 | m + 1 => by
   rw[List.range_succ,List.map_append,List.sum_append,List.map_append,List.sum_append,sum_one w f m]
   simp only[List.map_cons,List.map_nil,List.sum_cons,List.sum_nil]
   by_cases h1:w=m
   . rw[if_pos h1,if_neg U0,if_pos U0]
     omega
   . rw [if_neg h1]
     by_cases h2:w<m
     . rw[if_pos h2,if_pos U0]
       omega
     . rw[if_neg h2,if_neg U0]
       omega
theorem cnt_sum(n:Nat):∀ L:LL,(∀ u∈L,Dv.wt u<=n)->((List.range (n+1)).map fun t=>(L.filter fun u=>Dv.wt u==t).length).sum=L.length
 | [],_ => by
   refine Nat.eq_zero_of_not_pos fun h=>?_
   have:∀m,((List.range m).map fun t=>(([]:LL).filter fun u=>Dv.wt u==t).length).sum=0:=fun m=>by
    induction m with
    |zero=>rfl
    |succ m c=>rw[List.range_succ,List.map_append,List.sum_append,c];rfl
   rw[this] at h
   omega
 | x :: L,h => by
   have c:=cnt_sum n L fun u hu=>h u (List.mem_cons_of_mem _ hu)
   have e:((List.range (n+1)).map fun t=>((x :: L).filter fun u=>Dv.wt u==t).length)=(List.range (n+1)).map fun t=>(L.filter fun u=>Dv.wt u==t).length+if Dv.wt x=t then 1 else 0:=List.map_congr_left fun t _=>by
    rw[List.filter_cons]
    by_cases b:Dv.wt x=t
    . rw[if_pos (by simp[b]),if_pos b,List.length_cons]
    . rw[if_neg (by simp[b]),if_neg b]
      rfl
   have d:=h x (List.mem_cons_self ..)
   rw[e,sum_one,c,if_pos U0,List.length_cons]
theorem cntW_sum{q n:Nat}{O:Ops}(h:Fld q O){rows:LL}(c:∀r∈rows,Dv.Ok q n r):(cntW O q n rows).sum=q^rows.length:=by unfold cntW cntL;rw[List.take_length,cnt_sum,wl_len];intro u b;have:=wl_ok h rows _ c (Dv.zeros_ok (by have:=h.q1;omega)) u b;exact Nat.le_trans (rwt_le _) (Nat.le_of_eq this.1)
theorem cntW_len(O:Ops)(q n:Nat)(rows:LL):(cntW O q n rows).length=n+1:=cntL_len _ _ _
theorem ker_code{p m:Int}{mod:LI}{N:Nat}{rows:LL}(f:fieldOK p m mod=true)(g:1<=N)(h:N<=64)(i:Grid (p.toNat^m.toNat) rows.length N rows):codeZ p m mod (N:Int) (nzs (kerM (opsT p.toNat m.toNat (lOf p m mod)) rows N))=0:=by have b:=Al.fld_of (field_ft f);have c:=canon_grid b.self i;have d:=kerRows_grid (piv:=(elGo (opsT p.toNat m.toNat (lOf p m mod)) rows N).piv) b.self b.q1 c rfl;unfold kerM;have:=(codeZ_canon (mod:=mod) f g h d).1;exact this
def TransOk(O:Ops)(q n:Nat)(K:LL)(low:Nat):Prop:=
 ∃Bs:LN,(∀j,j<n+1->(Bs.getD j 0:Int)*(cntW O q n K).sum=trO q n (natZ (cntW O q n K)) j (n+1))/\∀j,1<=j->j<low->Bs.getD j 0=0
def RelTr(w1:Wo)(Ns:LN)(v9 v29:Value)(wr:Wo):Prop:=
 ∃k:Nat,k<=Ns.length/\v29=Y (k:Int)/\NOwn wr w1.heap.size v9 (Ns.take k)/\zB w1 wr
theorem natsAt_drop{w:Wo}{Ns:LN}{b o:Nat}(h:NatsAt w (some (zA b o)) Ns)(l:Nat)(m:l+1<=Ns.length):NatsAt w (some (zA b (o+1))) ((Ns.drop 1).take l):=fun hz=>by
 obtain⟨i,k,e,c,g⟩:=h U0
 injection e with e
 injection e with e1 e2
 subst e1
 subst e2
 refine⟨_,_,rfl,c,fun j hj=>?_⟩
 rw[List.length_take,List.length_drop] at hj
 obtain⟨v,d,f⟩:=g (1+j) U0
 have e:((Ns.drop 1).take l).getD j 0=Ns.getD (1+j) 0:=by
  simp only[List.getD,List.getElem?_take,List.getElem?_drop]
  rw[if_pos U0]
 exact⟨v,by rw[Nat.add_assoc];exact d,by rw[e];exact f⟩
theorem transform_c(p m:Int)(mod:LI)(n:Nat)(rows:LL)(Am Ag:OA)(cm cg:Nat)(low:Nat)(w:Wo)(hM:zI w Am mod)(bz:mod.length<=1000000)(hA:zR w Ag (nzs rows))(b2:rows.length<=1000)(hf:fieldOK p m mod=true)(hz:codeZ p m mod (n:Int) (nzs rows)=0)(bw:errC p m mod (n:Int) (nzs rows)=0)(hn:1<=n)(bx:n<=64)(hG:Grid (p.toNat ^ m.toNat) rows.length n rows)(b0:1<=low)(b1:low<=n+1):
 zC 57 #[Ca p m Am mod.length cm n Ag rows.length cg,Y (low:Int)] w (ItPost w (TransOk (opsT p.toNat m.toNat (lOf p m mod)) (p.toNat^m.toNat) n (kerM (opsT p.toNat m.toNat (lOf p m mod)) rows n) low)):=by
 have X:=field_ft hf;have H:=Al.fld_of X;have bs:=H.q1;have bt:=X.small.q;have Z:=ker_grid H hG;have ba:=ker_code hf hn bx hG;have HX:=zH (bx_new w (C2 p m Am mod.length cm n Ag rows.length cg) 32);have ak:zK (∀W,zB w W->_):=fun W hW=>dual_all p m mod Am cm n rows Ag cg _ W ((hM.keep hW).more hW.size) bz ((hA.keep hW).more hW.size) U0 hz hn bw rfl;have a2:zK (∀(W:Wo)(A2 A':OA)(c2 c':Nat),zI W A2 mod->zR W A' (nzs (kerM (opsT p.toNat m.toNat (lOf p m mod)) rows n))->zC 54 #[Ca p m A2 mod.length c2 n A' (kerM (opsT p.toNat m.toNat (lOf p m mod)) rows n).length c'] W (WtPost W n (cntW (opsT p.toNat m.toNat (lOf p m mod)) (p.toNat^m.toNat) n (kerM (opsT p.toNat m.toNat (lOf p m mod)) rows n)) ((p.toNat^m.toNat)^(kerM (opsT p.toNat m.toNat (lOf p m mod)) rows n).length<=65536))):=fun W A2 A' c2 c' h1 h2=>weights_c p m mod n (kerM (opsT p.toNat m.toNat (lOf p m mod)) rows n) A2 A' c2 c' W h1 bz h2 U0 hf ba hn bx Z.2;have C:(cntW (opsT p.toNat m.toNat (lOf p m mod)) (p.toNat^m.toNat) n (kerM (opsT p.toNat m.toNat (lOf p m mod)) rows n)).sum=(p.toNat^m.toNat)^(kerM (opsT p.toNat m.toNat (lOf p m mod)) rows n).length:=cntW_sum H Z.2;have ac:(cntW (opsT p.toNat m.toNat (lOf p m mod)) (p.toNat^m.toNat) n (kerM (opsT p.toNat m.toNat (lOf p m mod)) rows n)).length=n+1:=cntW_len _ _ _ _;have aw:zK (0<(p.toNat^m.toNat)^(kerM (opsT p.toNat m.toNat (lOf p m mod)) rows n).length):=Nat.pow_pos U0;have ar:zK (∀W,zB w W->zC 72 #[C6 p m Am mod.length cm] W fun e w'=>(∃gb,e=.returned (.tuple (Cq gb))/\W.heap.size<=gb/\GFAt w' w'.heap.size gb p.toNat m.toNat (lOf p m mod) (logL (lOf p m mod) (p.toNat^m.toNat)))/\zB W w'):=fun W hW=>fnew_ok p m mod Am cm W ((hM.keep hW).more hW.size) hf;have av:zK (∀W gb,GFAt W W.heap.size gb p.toNat m.toNat (lOf p m mod) (logL (lOf p m mod) (p.toNat^m.toNat))->_):=fun W gb h=>gorder_e gb W.heap.size p.toNat m.toNat (lOf p m mod) _ W h;have ao:zK (∀(l:Nat),l=n+1->∀(W:Wo)(A:OA)(c:Nat)(d:LN),d.length=l->NatsAt W A d->d.sum<BB->0<d.sum->zC 119 #[Y ((p.toNat^m.toNat:Nat):Int),zL A l c] W fun e w'=>((∃A c f,e=.returned (.tuple #[zL A l c,Y 0])/\l<=c/\f.length=l/\NatsAt w' A f/\∀j,j<l->(f.getD j 0:Int)*d.sum=trO (p.toNat^m.toNat) n (natZ d) j l)\/e=.returned (.tuple #[zL none 0 0,Y 5]))/\zB W w'):=fun l h W A c d h1 h2 h3 h4=>by
  subst h;refine(mdual_c (p.toNat^m.toNat) n A c d W U0 U0 bx h1 h2 h3 h4).mono ?_;rintro e w' (⟨A,c,f,V,U,hl,ha,hv,R⟩|⟨V,_,R⟩)
  . exact⟨.inl ⟨A,c,f,V,U,hl,ha,fun j hj=>(hv j hj).2⟩,R⟩
  . exact⟨.inr V,R⟩
 have a0:zK (∀f:LN,(∀j,j<n+1->(f.getD j 0:Int)*(cntW (opsT p.toNat m.toNat (lOf p m mod)) (p.toNat^m.toNat) n (kerM (opsT p.toNat m.toNat (lOf p m mod)) rows n)).sum=trO (p.toNat^m.toNat) n (natZ (cntW (opsT p.toNat m.toNat (lOf p m mod)) (p.toNat^m.toNat) n (kerM (opsT p.toNat m.toNat (lOf p m mod)) rows n))) j (n+1))->(∀j,1<=j->j<low->f.getD j 0=0)->TransOk (opsT p.toNat m.toNat (lOf p m mod)) (p.toNat^m.toNat) n (kerM (opsT p.toNat m.toNat (lOf p m mod)) rows n) low):=fun f h1 h2=>⟨f,h1,h2⟩;clear hM hA hf hz bw hG X H Z ba;generalize TransOk (opsT p.toNat m.toNat (lOf p m mod)) (p.toNat^m.toNat) n (kerM (opsT p.toNat m.toNat (lOf p m mod)) rows n) low=TP at *;generalize (cntW (opsT p.toNat m.toNat (lOf p m mod)) (p.toNat^m.toNat) n (kerM (opsT p.toNat m.toNat (lOf p m mod)) rows n))=d at *;generalize (kerM (opsT p.toNat m.toNat (lOf p m mod)) rows n)=K at *;generalize p.toNat^m.toNat=q at *;go_enter func57,ntmps57;go_upto_region 1 with fail;generalize w.alloc (C9 p m Am mod.length cm n Ag rows.length cg)=W0 at *;have u:=zH HX.o.range;have ah:=zH (ak.o W0 HX.o.below);go_wp2_with (refine wpList_load_mid rfl 32 (.tmp 2) rfl w.heap.size 0 rfl (C2 p m Am mod.length cm n Ag rows.length cg) _ u.o underlying32 rfl codeSize ?_);go_fit ah.o;rintro e r ⟨⟨A2,c2,A',c',rfl,hK,hM2⟩,hb1⟩;have a3:=zH (HX.o.grow hb1);have bq:=HX.o.2.1.size;have al:zK (zR r A' (nzs K)):=RowsUp.rowsAt hK;have an:zK (zI r A2 mod):=IntsUp.ints hM2;have M:zK ((r.alloc (Ci)).heap[r.heap.size]?=some (Ci)):=heap_alloc_new _ _;have t:zK (zB r ((r.alloc (Ci)).setRow r.heap.size (Cd p m A2 mod.length c2 n A' K.length c'))):=qaR (zV.alloc zn _) zn _;have aj:zK (((r.alloc (Ci)).setRow r.heap.size (Cd p m A2 mod.length c2 n A' K.length c')).heap[r.heap.size]?=some (.cells (C2 p m A2 mod.length c2 n A' K.length c').toArray 32 (0,0))):=setRow_same _ _ _ _ _ M.o;clear hK hM2 hb1 HX ah ak u;go_upto_region 2 with(refine wpList_store_row rfl 32 (.tmp 5) (.tmp 18) rfl _ r.heap.size 32 (Ct) (Cd p m A2 mod.length c2 n A' K.length c') rfl rfl M.o codeSz rfl sc ?_);generalize (r.alloc (Ci)).setRow r.heap.size (Cd p m A2 mod.length c2 n A' K.length c')=w2 at *;clear M;have a1:=zH (a2.o w2 A2 A' c2 c' ((an.o.keep t.o).more t.o.size) ((al.o.keep t.o).more t.o.size));have ax:=zH (range_of_row aj.o);have a4:=zH (a3.o.grow t.o);clear t an al a2 a3 aj;go_wp2_with (refine wpList_load_mid rfl 32 (.tmp 5) rfl r.heap.size 0 rfl (C2 p m A2 mod.length c2 n A' K.length c') _ ax.o underlying32 rfl codeSize ?_);go_fit a1.o;rintro e w3 ⟨U,hb3⟩;have O:=zH (a4.o.grow hb3);clear hb3 a1 a4 ax;rcases U with⟨z,bo,_,rfl⟩|⟨g,bh,rfl,hg,hI⟩
 . have bv:(z != 0)=true:=bne_iff_ne.2 bo;go_wp2;go_ret;exact⟨⟨false,rfl,fun h=>by cases h⟩,O.o.2.1⟩
 have HI:=zH hI;have N:zK (d.sum<BB/\0<d.sum):=by
  refine⟨?_,?_⟩
  . rw[C];unfold BB;omega
  . rw[C];exact aw.o
 clear hI C aw bh;obtain⟨l,ab⟩:∃l,l=n+1:=⟨_,rfl⟩;rw[<- ab] at ac ⊢;have bp:l<=65:=U0;have ap:=zH ab;have i:=zH ac;clear ab ac;have u:zK (RelTr w3 d (zL none 0 0) (Y ((0:Nat):Int)) w3):=⟨0,U0,rfl,by rw[List.take_zero];exact NOwn.nil _ _,Below.refl _ _⟩;go_wp2;go_loopw [9,29] (fun v9 v29 wr=>RelTr w3 d v9 v29 wr) (fun _ v29 _=>l-(intOf v29).toNat);case atStart=>exact u.o
 case round =>
  obtain⟨k,hk,rfl,B,R⟩:=hrel;obtain⟨A8,c8,e8,_,_⟩:=B.form;rw[List.length_take,Nat.min_eq_left hk] at e8;subst e8;have s:=zH B;have HB:=zH R;clear u B R;by_cases aa:k<l
  . obtain ⟨b,o,V,T,U⟩ := (HI.o.keep HB.o).at_ (k := k) (by rw [qaA,i.o];exact aa);injection V with V;injection V with e1 e2;subst e1;subst e2;rw [qaC,Nat.zero_add] at U;have bn:=Nat.lt_of_le_of_lt (qfG d k) N.o.1;unfold BB at bn;(have be:zK (d.take (k+1)=d.take k++[d.getD k 0]):=by show _=_;rw [List.take_succ_eq_append_getElem (by rw [i.o];exact aa)];simp [List.getD,show k<d.length by rw [i.o];exact aa]);generalize d.getD k 0=x at *;have bu:IntKind.u64.wrap (x:Int)=(x:Int):=IntWalk.u64_in _ U0;have HO:=zH (natOf_c x wr (by unfold BB;omega));have k0:(0:Int)<=(k:Int):=U0;have k1:(k:Int)<(l:Int):=U0;go_wp2_with fail;go_fit HO.o;rintro e w4 ⟨v,rfl,hv,hb4⟩;obtain ⟨A3,k3,c3,rfl⟩:=qeS hv;have bm:=HB.o.size;have bi:=hb4.size;have D:zK (zB w4 (w4.alloc (.cells #[zL A3 k3 c3] 143))):=zV.alloc zn _
    have hu:NatP (w4.alloc (.cells #[zL A3 k3 c3] 143)) (fun b=>(Value.slice A8 k c8).ownBlock≠some b) (zL A3 k3 c3) x:=(hv.toP fun b R _ e=>by
     have:=(s.o.own_lt b e).2
     omega).of_blocks U2 fun k _ hk=>heap_alloc_old _ _ hk
    obtain⟨v6,w6,L,ad,y,bj,bg⟩:=((s.o.grow hb4).grow D.o).append (b:=w4.heap.size) so (heap_alloc_new _ _) hu (by rw[List.length_take];omega);rw[<- be.o] at ad;have az:=zH L;have bd:zK (RelTr w3 d v6 (Y ((k:Int)+1)) w6):=⟨k+1,by rw[i.o];omega,U3,ad,(HB.o.trans ((hb4.trans (D.o.mono bi)).mono bm)).trans y⟩;clear L ad y bj bg hu hv hb4 D;go_wp2_with (at_builtin;refine qeU rfl _ (.tmp 37) 141 rfl rfl rfl az.o ?_);go_roundw;case rel=>exact bd.o
    case measure=>simp[intOf];omega
  . (obtain rfl : k = l := by rw [i.o] at hk;omega);have ae:=s.o;rw [<- i.o,List.take_length] at ae;obtain ⟨A9,c9,e9,_,bc⟩:=ae.form;rw [i.o] at e9;injection e9 with e1 _ e3;subst e1;subst e3;have aq:=zH bc;have E:=zH (O.o.grow HB.o);have I:=zH (ar.o wr E.o.2.1);have ay:=zH E.o.field;clear ae bc s HI HB O ar;go_wp2_with (refine wpList_load_mid rfl 29 (.tmp 41) rfl w.heap.size 0 rfl (C7 p m Am mod.length cm) _ ay.o underlying29 rfl fieldSize ?_);go_fit I.o;rintro e w5 ⟨⟨gb,rfl,hgb,hgf⟩,hb5⟩;have a5:=zH (E.o.grow hb5);have au:=zH (av.o w5 gb hgf);have ai:=zH (ao.o _ ap.o w5 A8 c8 d i.o (aq.o.grow hb5) N.o.1 N.o.2);clear hgf hgb hb5 I ay E av ao aq;go_wp2_with fail;go_fit au.o;rintro e w' ⟨rfl,rfl⟩;go_wp2_with fail;go_fit ai.o;rintro e w6 ⟨U,y⟩;have P:=zH (a5.o.grow y);clear y au ai a5;rcases U with ⟨Ab,cb,f,rfl,br,T,S,a6⟩|rfl;rotate_left
    . go_wp2;go_ret;exact⟨⟨false,rfl,fun h=>by cases h⟩,P.o.2.1⟩
    have a9:=ap.o;obtain⟨b,o,rfl,a7,a8⟩:=id S U0;clear a7 a8;(have ag:zK (zC 121 #[zL (some (zA b (o+1))) (low-1) (cb-1),.func (.func 122) #[] #[]] w6 fun e w'=>e=.returned (.bool (decide (0<=nzIx ((f.drop 1).take (low-1)) 0)))/\w6=w'):=by(have J:((f.drop 1).take (low-1)).length=low-1:=by rw[List.length_take,List.length_drop];omega);have:=containsN_c ((f.drop 1).take (low-1)) (some (zA b (o+1))) (cb-1) w6 (natsAt_drop S (low-1) U0) (by rw[J];omega);rw[J] at this;exact this);have D:=zH T;have af:=zH a6;clear S a6 T;have l0:(0:Int)<=(low:Int):=U0;have l1:(1:Int)<=(low:Int):=U0;have l2:(low:Int)<=(cb:Int):=U0;have Q:zK (k=n+1):=a9;clear a9;go_wp2_with fail
    . exfalso;have:=Q.out;omega
    go_fit ag.o;rintro e w' ⟨rfl,rfl⟩
    have bf:zK (decide (0<=nzIx ((f.drop 1).take (low-1)) 0)=false->TP):=fun hd=>a0.o f (fun j hj=>by
     have:=af.o j (by rw[Q.out];exact hj)
     rw[Q.out] at this
     exact this) fun j h1 h2=>by
     have h3:=nzIx_none ((f.drop 1).take (low-1)) 0 (by have:=of_decide_eq_false hd;omega) (j-1)
     have e:((f.drop 1).take (low-1)).getD (j-1) 0=f.getD j 0:=by
      simp only[List.getD,List.getElem?_take,List.getElem?_drop]
      rw[if_pos U0,show 1+(j-1)=j by omega]
     rw[e] at h3
     exact h3
    clear ag a0 af;generalize decide (0<=nzIx ((f.drop 1).take (low-1)) 0)=bb at *;cases bb
    . have HQ:=zH (bf.o rfl);go_wp2;go_ret;exact⟨⟨true,rfl,fun _=>HQ.o⟩,P.o.2.1⟩
    . go_wp2;go_ret;exact⟨⟨false,rfl,fun h=>by cases h⟩,P.o.2.1⟩
theorem form_len{s:StD}(d:formZ s=0):(natR s.gen).length<=s.n.toNat:=by have c:=form_canon d;have b:=(elGo_piv (O:=opsS s) (natR s.gen) s.n.toNat).1;rw[<- canonM_len,c] at b;exact b
theorem cl_min{q n d:Nat}{O:Ops}{h:Fld q O}{rows:LL}(hd:1<=d)(b:Cl h n (d-1) rows [] []):MinW h n rows d:=fun f hf=>by
 rcases Nat.lt_or_ge (d-1) (wf n f) with h1|h1
 . right;omega
 . exact .inl (b f hf U2 U2 h1)
theorem ints_drop{w:Wo}{B b o:Nat}{L:LN}(h:IntsAt w B (some (zA b o)) (nz L))(l:Nat)(k:l+1<=L.length):IntsAt w B (some (zA b (o+1))) (nz ((L.drop 1).take l)):=fun hz=>by
 obtain⟨g,i,e,c,f⟩:=h (by rw[qaA];omega)
 injection e with e
 injection e with e1 e2
 subst e1
 subst e2
 refine⟨_,_,rfl,c,fun j hj=>?_⟩
 rw[qaA,List.length_take,List.length_drop] at hj
 have d:=f (1+j) (by rw[qaA];omega)
 have e:((L.drop 1).take l).getD j 0=L.getD (1+j) 0:=by
  simp only[List.getD,List.getElem?_take,List.getElem?_drop]
  rw[if_pos U0]
 rw[Nat.add_assoc,d,qaC,qaC,e]
structure StepW (s:StD) (N L:Nat) (rows:LL):Prop where
 n:((N:Nat):Int)=s.n
 low:((L:Nat):Int)=s.low
 gen:nzs rows=s.gen
 len:rows.length=s.gen.length
 mod:s.mod.length<=1000000
 fld:fieldOK s.p s.m s.mod=true
 code:codeZ s.p s.m s.mod (N:Int) (nzs rows)=0
 err:errC s.p s.m s.mod (N:Int) (nzs rows)=0
 n1:1<=N
 n2:N<=64
 grid:Grid (s.p.toNat^s.m.toNat) rows.length N rows
 l1:1<=L
 l2:L<=N+1
 rl:rows.length<=64
theorem step_w{s:StD}(r:formZ s=0):StepW s s.n.toNat s.low.toNat (natR s.gen):=by
 have b:=form_is r;have c:((s.n.toNat:Nat):Int)=s.n:=by have:=b.n1;omega
 have f:((s.low.toNat:Nat):Int)=s.low:=by have:=b.low1;omega
 have g:s.mod.length<=1000000:=by
  have i:=shape_is (by have h:=b.field;unfold fieldOK at h;rw[Bool.and_eq_true] at h;exact h.1:shapeM s.p s.m s.mod=true);by_cases d:s.m=1
  . rw[i.one d];simp
  . rw[i.len d];have:=i.small.m2;omega
 have j:=b.n1;have k:=b.n2;have l:=b.low1;have o:=b.low2;have q:=form_len r;exact⟨c,f,b.rows,by unfold natR;rw[List.length_map],g,b.field,by rw[b.rows,c];exact qbG r,by rw[b.rows,c];exact form_err r,U0,U0,b.grid,U0,U0,U0⟩
theorem low_min{s:StD}(b:formZ s=0)(h:MinW (fld_of (field_ft (step_w b).fld)) s.n.toNat (natR s.gen) s.low.toNat):LowOk s:=fun _=>h
theorem itself_17(s:StD)(cs:List Value)(w:Wo)(hs:StC w w.heap.size s cs)(Z:s.ok)(V:formZ s=0)(X:s.rule=17):
 zC 28 #[.agg cs.toArray] w (ItPost w (LowOk s)):=by
 obtain⟨d,c,A,y,z,B,C,Ar,D,At,g,f,E,ca,cb,cp,H,I,r,i,rfl,_,J,K,O,P,L⟩:=hs;have S:=step_w V;have t:s.sets.length<=9223372036854775807:=Z.2.2.2.2.2.2.2.2.2;have b:=zH (sb_new w (stCells s d c A y z B C Ar D At g f E ca cb cp H I r i));have l:zK (∀W,zB w W->zC 58 #[Ca s.p s.m d s.mod.length g s.n c s.gen.length f,Y s.low,.agg #[zL At s.sets.length i]] W fun e w'=>(∃ec:Int,e=.returned (Y ec)/\(ec=0->LowOk s))/\zB W w'):=fun W hW=>by have h:=xdist_c s.p s.m s.n.toNat s.mod (natR s.gen) d c g f s.low.toNat At i s.sets W ((J.keep hW).more hW.size) S.mod (by rw[S.gen];exact(K.keep hW).more hW.size) S.code S.fld S.l1 S.l2 S.n2 S.rl S.grid.2 ((L.keep hW).more hW.size) t;rw[S.len,S.n,S.low] at h;exact h.mono fun e w' ⟨⟨ec,he,hq⟩,hb⟩=>⟨⟨ec,he,fun h0=>low_min V (cl_min S.l1 (hq h0))⟩,hb⟩
 have N:=zH X;clear J K O P L S X V t Z;generalize LowOk s=T at *;go_enter func28,ntmps28;go_upto_region 1 with fail;generalize w.alloc (.cells (stCells s d c A y z B C Ar D At g f E ca cb cp H I r i).toArray 40)=q at *;have Q:q.cell? (zA w.heap.size 0)=some (Y 17):=by rw[<- N.o];exact b.o.cell rfl
 have R:q.cell? (zA w.heap.size 6)=some (Y s.low):=b.o.cell rfl;have u:zK (q.rangeAt w.heap.size 1 (C2 s.p s.m d s.mod.length g s.n c s.gen.length f)):=b.o.sub 1 _ (fun j hj=>by rcases j with _|_|_|_|_|j<;>first|rfl|(simp at hj<;>omega));have v:zK (q.rangeAt w.heap.size 22 [zL At s.sets.length i]):=b.o.sub 22 _ (fun j hj=>by rcases j with _|j<;>first|rfl|(simp at hj<;>omega));have k:=zH (l.o q b.o.2.1);clear l;go_wp2_with (first|(refine wpList_load_mid rfl 32 (.tmp 135) rfl w.heap.size 1 rfl (C2 s.p s.m d s.mod.length g s.n c s.gen.length f) _ u.o underlying32 rfl codeSize ?_)|(refine wpList_load_mid rfl 38 (.tmp 139) rfl w.heap.size 22 rfl [zL At s.sets.length i] _ v.o underlying38 rfl exclSize ?_));go_fit k.o;rintro e U ⟨⟨ec,rfl,hq⟩,hb1⟩;have x:=zH (b.o.grow hb1);have M:=zH hq;clear hb1 hq k Q R b;go_wp2;go_ret;exact⟨⟨_,rfl,fun h=>M.o (by simpa using h)⟩,x.o.2.1⟩
theorem count_low{s:StD}(b:formZ s=0)(h:∀t,1<=t->t<s.low.toNat->(cntW (opsT s.p.toNat s.m.toNat (lOf s.p s.m s.mod)) (s.p.toNat^s.m.toNat) s.n.toNat (natR s.gen)).getD t 0=0):LowOk s:=
 low_min b (law_count (step_w b).grid.2 h)
theorem trans_low{s:StD}(k:formZ s=0)(h:TransOk (opsT s.p.toNat s.m.toNat (lOf s.p s.m s.mod)) (s.p.toNat^s.m.toNat) s.n.toNat (kerM (opsT s.p.toNat s.m.toNat (lOf s.p s.m s.mod)) (natR s.gen) s.n.toNat) s.low.toNat):LowOk s:=by obtain⟨f,g,i⟩:=h;have S:=step_w k;have b:=fld_of (field_ft S.fld);have c:=ker_grid b S.grid;have d:=ker_orth (h:=b) S.grid;have j:canonM (opsT s.p.toNat s.m.toNat (lOf s.p s.m s.mod)) (natR s.gen) s.n.toNat=natR s.gen:=form_canon k;rw[j] at d;exact low_min k (law_trans S.grid.2 c.2 d f g i)
theorem itselfW_16(s:StD)(cs:List Value)(w:Wo)(X:StC w w.heap.size s cs)(U:formZ s=0)(V:s.rule=16):
 zC 28 #[.agg cs.toArray] w (ItPost w (LowOk s)):=by
 obtain⟨d,c,y,v,x,z,A,Ar,B,At,i,g,C,ca,cb,cp,D,E,q,H,rfl,_,I,J,M,N,O⟩:=X;have S:=step_w U;have f:=zH (sb_new w (stCells s d c y v x z A Ar B At i g C ca cb cp D E q H));have l:zK (∀W,zB w W->zC 57 #[Ca s.p s.m d s.mod.length i s.n c s.gen.length g,Y s.low] W (ItPost W (LowOk s))):=fun W hW=>by have h:=transform_c s.p s.m s.mod s.n.toNat (natR s.gen) d c i g s.low.toNat W ((I.keep hW).more hW.size) S.mod (by rw[S.gen];exact(J.keep hW).more hW.size) (by have:=S.rl;omega) S.fld S.code S.err S.n1 S.n2 S.grid S.l1 S.l2;rw[S.len,S.n,S.low] at h;exact h.mono fun e w' ⟨⟨b,he,hq⟩,hb⟩=>⟨⟨b,he,fun h0=>trans_low U (hq h0)⟩,hb⟩
 have L:=zH V;clear I J M N O S V U;generalize LowOk s=R at *;go_enter func28,ntmps28;go_upto_region 1 with fail;generalize w.alloc (.cells (stCells s d c y v x z A Ar B At i g C ca cb cp D E q H).toArray 40)=r at *;have P:r.cell? (zA w.heap.size 0)=some (Y 16):=by rw[<- L.o];exact f.o.cell rfl
 have Q:r.cell? (zA w.heap.size 6)=some (Y s.low):=f.o.cell rfl;have t:zK (r.rangeAt w.heap.size 1 (C2 s.p s.m d s.mod.length i s.n c s.gen.length g)):=f.o.sub 1 _ (fun j hj=>by rcases j with _|_|_|_|_|j<;>first|rfl|(simp at hj<;>omega));have k:=zH (l.o r f.o.2.1);clear l;go_wp2_with (first|(refine wpList_load_mid rfl 32 (.tmp 130) rfl w.heap.size 1 rfl (C2 s.p s.m d s.mod.length i s.n c s.gen.length g) _ t.o underlying32 rfl codeSize ?_));go_fit k.o;rintro e T ⟨⟨b,rfl,hq⟩,hb1⟩;have u:=zH (f.o.grow hb1);have K:=zH hq;clear hb1 hq k P Q f;go_wp2;go_ret;exact⟨⟨_,rfl,K.o⟩,u.o.2.1⟩
theorem itselfW_15(s:StD)(cs:List Value)(w:Wo)(hs:StC w w.heap.size s cs)(hf:formZ s=0)(hr:s.rule=15):
 zC 28 #[.agg cs.toArray] w (ItPost w (LowOk s)):=by
 obtain⟨i,f,J,H,I,K,M,Ar,O,At,q,l,T,ca,cb,cp,U,V,r,X,rfl,_,Z,h2,E,h4,h5⟩:=hs;have S:=step_w hf;have C:=zH (sb_new w (stCells s i f J H I K M Ar O At q l T ca cb cp U V r X));have k:zK ((cntW (opsT s.p.toNat s.m.toNat (lOf s.p s.m s.mod)) (s.p.toNat^s.m.toNat) s.n.toNat (natR s.gen)).length=s.n.toNat+1):=cntW_len _ _ _ _;have v:zK (∀W,zB w W->zC 54 #[Ca s.p s.m i s.mod.length q s.n f s.gen.length l] W (WtPost W s.n.toNat (cntW (opsT s.p.toNat s.m.toNat (lOf s.p s.m s.mod)) (s.p.toNat^s.m.toNat) s.n.toNat (natR s.gen)) ((s.p.toNat^s.m.toNat)^s.gen.length<=65536))):=fun W hW=>by have h:=weights_c s.p s.m s.mod s.n.toNat (natR s.gen) i f q l W ((Z.keep hW).more hW.size) S.mod (by rw[S.gen];exact(h2.keep hW).more hW.size) (by have:=S.rl;omega) S.fld S.code S.n1 S.n2 S.grid.2;rw[S.len,S.n] at h;exact h
 have y:zK ((∀t,1<=t->t<s.low.toNat->(cntW (opsT s.p.toNat s.m.toNat (lOf s.p s.m s.mod)) (s.p.toNat^s.m.toNat) s.n.toNat (natR s.gen)).getD t 0=0)->LowOk s):=count_low hf;have HR:=zH hr;have s1:=S.l1;have s2:=S.l2;have s3:=S.n2;have s4:=S.n1;have B:=zH S.low;clear Z h2 E h4 h5 S hr hf;generalize LowOk s=LF at *;generalize ((s.p.toNat^s.m.toNat)^s.gen.length<=65536)=OK at *;generalize cntW (opsT s.p.toNat s.m.toNat (lOf s.p s.m s.mod)) (s.p.toNat^s.m.toNat) s.n.toNat (natR s.gen)=L at *;go_enter func28,ntmps28;go_upto_region 1 with fail;generalize w.alloc (.cells (stCells s i f J H I K M Ar O At q l T ca cb cp U V r X).toArray 40)=R at *;have y0:R.cell? (zA w.heap.size 0)=some (Y 15):=by rw[<- HR.o];exact C.o.cell rfl
 have A:zK (R.rangeAt w.heap.size 1 (C2 s.p s.m i s.mod.length q s.n f s.gen.length l)):=C.o.sub 1 _ (fun j hj=>by rcases j with _|_|_|_|_|j<;>first|rfl|(simp at hj<;>omega));have u:=zH (v.o R C.o.2.1);have x:zK (∀W,SB w w.heap.size (stCells s i f J H I K M Ar O At q l T ca cb cp U V r X) W->W.cell? (zA w.heap.size 6)=some (Y (s.low.toNat:Int))):=fun W h=>by rw[B.o];exact h.cell rfl
 clear v B;generalize s.low.toNat=low at *;generalize hN:s.n.toNat=N at *;clear hN;go_wp2_with (first|(refine wpList_load_mid rfl 32 (.tmp 113) rfl w.heap.size 1 rfl (C2 s.p s.m i s.mod.length q s.n f s.gen.length l) _ A.o underlying32 rfl codeSize ?_));go_fit u.o;rintro e D ⟨hc,hb1⟩;have c:=zH (C.o.grow hb1);clear hb1 u y0 C;rcases hc with⟨z,hz,_,rfl⟩|⟨g,_,rfl,hg,hI⟩
 . have aa:(z==0)=false:=beq_false_of_ne hz;go_wp2;go_ret;exact⟨⟨false,rfl,fun h=>by cases h⟩,c.o.2.1⟩
 have y6:D.cell? (zA w.heap.size 6)=some (Y (low:Int)):=x.o D c.o;have P:zK (zC 55 #[zL (some (zA g 1)) (low-1) N,.func (.func 56) #[] #[]] D fun e w'=>e=.returned (.bool (decide (0<=nzIx ((L.drop 1).take (low-1)) 0)))/\D=w'):=by
  have d:((L.drop 1).take (low-1)).length=low-1:=by rw[List.length_take,List.length_drop,k.o];omega
  have:=containsnz_c ((L.drop 1).take (low-1)) (some (zA g (0+1))) N D (ints_drop hI (low-1) (by rw[k.o];omega)) (by rw[d];omega);rw[d] at this;exact this
 have Q:zK (decide (0<=nzIx ((L.drop 1).take (low-1)) 0)=false->LF):=fun hd=>y.o fun t Z h2=>by
  have E:=nzIx_none ((L.drop 1).take (low-1)) 0 (by have:=of_decide_eq_false hd;omega) (t-1);have e:((L.drop 1).take (low-1)).getD (t-1) 0=L.getD t 0:=by simp only[List.getD,List.getElem?_take,List.getElem?_drop];rw[if_pos U0,show 1+(t-1)=t by omega]
  rw[e] at E;exact E
 have l0:(0:Int)<=(low:Int):=U0;have l1:(1:Int)<=(low:Int):=U0;have l2:(low:Int)<=(N:Int)+1:=U0;have j1:∀a b:OA,(if N=0 then a else b)=b:=fun a b=>if_neg U0;clear hI k hg x y A;generalize decide (0<=nzIx ((L.drop 1).take (low-1)) 0)=bb at *;go_wp2_with fail;go_fit P.o;rintro e w' ⟨rfl,rfl⟩;cases bb
 . have HQ:=zH (Q.o rfl);go_wp2;go_ret;exact⟨⟨true,rfl,fun _=>HQ.o⟩,c.o.2.1⟩
 . go_wp2;go_ret;exact⟨⟨false,rfl,fun h=>by cases h⟩,c.o.2.1⟩
theorem stX_w:StX StC:=⟨fun h hb=>h.keep hb,fun h hB=>h.more hB,fun h=>h⟩
def CntP(s:StD)(ps:List StD):Prop:=ps=[]/\LowOk s
def npW(_:Int):Nat:=0
theorem cnt_len(s:StD)(b:List StD)(h:CntP s b):b.length=npW s.rule:=by rw[h.1];rfl
theorem low_word{s:StD}(j:formZ s=0)(h:LowOk s){i:LN}(k:∀x∈i,x<s.p.toNat^s.m.toNat):WordOk s i:=by
 have d:=form_is j;have hfl:Fld (s.p.toNat^s.m.toNat) (opsS s):=fld_of (field_ft d.field);have g:=d.low1;obtain⟨f,c⟩:=cw_lin j (hfl:=hfl) (inC_lin s.n.toNat (natR s.gen)) (fun r hr=>InC.mem hr) k;have b:=wf_wt (h:=hfl) c.2;rw[c.1] at b;unfold WordOk;rcases h hfl _ f with h3|h3
 . left;rw[<- b];exact qcW h3
 . right;rw[b] at h3;omega
theorem follows_w(cs:List Value)(n:cs.length=23)(P:Prop)(A:OA)(c:Nat)(w:Wo)(m:∀W:Wo,zB w W->zC 28 #[.agg cs.toArray] W (ItPost W P)):
 zC 17 #[.agg cs.toArray,zL A 0 c] w (ItPost w P):=by have g:=zH (sb_new w cs);have d:=zH m;clear m;go_enter func17,ntmps17;go_upto_region 1 with fail;generalize w.alloc (.cells cs.toArray 40)=k at *;have f:=zH g.o.range;have j:=zH (d.o k g.o.2.1);clear d;go_wp2_with (refine wpList_load_mid rfl 40 (.tmp 2) rfl w.heap.size 0 rfl cs _ f.o underlying40 rfl (by rw[n];exact stepSize) ?_);go_fit j.o;rintro e l ⟨⟨b,rfl,hp⟩,hb⟩;have i:=zH (g.o.grow hb);have h:=zH hp;clear hb j g f hp;go_wp2;go_ret;exact⟨⟨b,rfl,h.o⟩,i.o.2.1⟩
theorem fo_w(s:StD)(m:s.ok)(f:s.rule=15\/s.rule=16\/s.rule=17)(cs:List Value)(i:List StD)(v:Value)(B:Nat)(W:Wo)(g:StC W W.heap.size s cs)(k:FromX StC W B v i)(l:i.length=0)(j:formZ s=0):
 zC 17 #[.agg cs.toArray,v] W fun e w'=>∃b,e=.returned (.bool b)/\zB W w'/\(b=true->CntP s i):=by
 obtain rfl:i=[]:=List.length_eq_zero_iff.1 l;obtain⟨c,d,rfl,_⟩:=k.form;refine(follows_w cs g.len (LowOk s) c d W fun W' hW=>?_).mono fun e w' ⟨⟨b,he,hb⟩,hbl⟩=>⟨b,he,hbl,fun h=>⟨rfl,hb h⟩⟩;rcases f with f|f|f
 . exact itselfW_15 s cs W' (g.lift hW) j f
 . exact itselfW_16 s cs W' (g.lift hW) j f
 . exact itself_17 s cs W' (g.lift hW) m j f
theorem premises_w(r:Nat)(b:r∈[15,16,17])(w:Wo):zC 16 #[Y (r:Int)] w fun e w'=>e=.returned (zN 0)/\w=w':=by
 simp only[List.mem_cons,List.not_mem_nil,or_false] at b;rcases b with rfl|rfl|rfl
 . show Calls _ _ #[Y 15] w fun e w'=>e=.returned (Y 0)/\w=w';go_enter func16,ntmps16;go_wp2;go_ret;exact⟨rfl,rfl⟩
 . show Calls _ _ #[Y 16] w fun e w'=>e=.returned (Y 0)/\w=w';go_enter func16,ntmps16;go_wp2;go_ret;exact⟨rfl,rfl⟩
 . show Calls _ _ #[Y 17] w fun e w'=>e=.returned (Y 0)/\w=w';go_enter func16,ntmps16;go_wp2;go_ret;exact⟨rfl,rfl⟩
theorem cnt_step(h:List StD)(j:∀d∈h,d.ok)(k:Nat)(i:k<h.length)(A:OA)(c:Nat)(W:Wo)(m:StsX StC W W.heap.size A h)(n:h.length<=1000)(l:∃t:Nat,t∈[15,16,17]/\(h[k]'i).rule=(t:Int)):
 zC 7 #[zL A h.length c,Y k] W (AccPost W h k CntP):=by obtain⟨t,l,e⟩:=l;have b:(h[k]'i).ok:=j _ (List.getElem_mem i);have f:=l;simp only[List.mem_cons,List.not_mem_nil,or_false] at l;have g:(h[k]'i).rule=15\/(h[k]'i).rule=16\/(h[k]'i).rule=17:=U0;exact qcN stX_w CntP 0 U0 h A c k W m j n i U0 U0 U0 U0 (fun W=>by rw[e];exact premises_w t f W) fun cs ps v B W' h1 _ h3 _ h5 h6=>fo_w _ b g cs ps v B W' h1 h3 h5 h6
theorem wpremises_c(r:Nat)(W:Wo)(b:r∈[15,16,17]):zC 9 #[Y (r:Int)] W fun e w'=>e=.returned (Y (npW (r:Int):Int))/\W=w':=by
 simp only[List.mem_cons,List.not_mem_nil,or_false] at b;rcases b with rfl|rfl|rfl
 . show Calls _ _ #[Y 15] W fun e w'=>e=.returned (Y 0)/\W=w';go_enter func9,ntmps9;go_wp2;go_ret;exact⟨rfl,rfl⟩
 . show Calls _ _ #[Y 16] W fun e w'=>e=.returned (Y 0)/\W=w';go_enter func9,ntmps9;go_wp2;go_ret;exact⟨rfl,rfl⟩
 . show Calls _ _ #[Y 17] W fun e w'=>e=.returned (Y 0)/\W=w';go_enter func9,ntmps9;go_wp2;go_ret;exact⟨rfl,rfl⟩
theorem counts_c(u:ThreeOk)(m:List StD)(A:OA)(c:Nat)(i:Int)(zs:LI)(n:OA)(t:Nat)(w:Wo)(v:StsX StC w w.heap.size A m)(p:∀d∈m,d.ok)(y:m.length<=maxLen)(x:zI w n zs)(q:zs.length<=maxLen):
 zC 3 #[zL A m.length c,Y i,zL n zs.length t] w (LocPost w):=by
 have f:zB w (w.alloc (Cs 15 16 17)):=zV.alloc zn _;have b:(w.alloc (Cs 15 16 17)).heap[w.heap.size]?=some (Cs 15 16 17):=heap_alloc_new _ _;have g:=zH f
 have l:=zH (local_g stX_w CntP npW [15,16,17] U2 u (fun r W hr=>wpremises_c r W hr) cnt_len (fun s ps msg h1 _ _ h5 _ h7=>low_word h1 h5.2 h7) m A c i zs n t w.heap.size 3 (w.alloc (Cs 15 16 17)) (StsX.more stX_w (StsX.keep stX_w v f) f.size) p y ((x.keep f).more f.size) q (block_lt b) (fun j r hj=>by
  rcases j with _|_|_|j
  . injection hj with hj;subst hj;exact cell_of_row _ _ 0 _ _ _ b
  . injection hj with hj;subst hj;exact cell_of_row _ _ 1 _ _ _ b
  . injection hj with hj;subst hj;exact cell_of_row _ _ 2 _ _ _ b
  . simp at hj) (fun k hk' A' c' W h1 h2 h4=>cnt_step m p k hk' A' c' W h1 h2 h4))
 clear v p x f b u;go_enter func3,ntmps3;go_wp2_with fail;refine l.o.mono ?_;rintro e w' ⟨rfl,f⟩;have h:=zH (g.o.trans (f.mono g.o.size));clear f l g;go_wp2;go_ret;exact⟨rfl,h.o⟩
end Go.Proofs.YtkcdlealipfnbaaGreat
