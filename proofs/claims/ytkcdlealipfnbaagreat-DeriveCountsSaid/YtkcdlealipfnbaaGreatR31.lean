/- Parts of the proof. -/
import Derived.Test.YtkcdlealipfnbaaGreatR30
import Derived.Test.YtkcdlealipfnbaaGreatR29
set_option maxRecDepth 100000
set_option maxHeartbeats 8000000
namespace Go.Proofs.YtkcdlealipfnbaaGreat
open Go.RowKit Pln
structure GrsOk (p m:Int) (mod:LI) (K:Int) (ps qs:LI):Prop where
 ok:fieldOK p m mod=true
 n1:1<=ps.length
 n2:ps.length<=64
 len:qs.length=ps.length
 pq:∀z∈ps,0<=z/\z<((p.toNat^m.toNat:Nat):Int)
 qq:∀z∈qs,0<=z/\z<((p.toNat^m.toNat:Nat):Int)
 dis:∀i j,j<i->i<ps.length->ps.getD i 0≠ps.getD j 0
 q0:∀z∈qs,z≠0
 k0:0<=K
 k1:K<=(ps.length:Int)
structure GrsN (p m:Int) (mod:LI) (K:Nat) (L M:LN):Prop where
 ok:fieldOK p m mod=true
 n1:1<=L.length
 n2:L.length<=64
 len:M.length=L.length
 lq:∀x∈L,x<p.toNat^m.toNat
 mq:∀x∈M,x<p.toNat^m.toNat
 dis:∀i j,j<i->i<L.length->L.getD i 0≠L.getD j 0
 m0:∀x∈M,x≠0
 k1:K<=L.length
theorem checkZ_ok{q n cols:Nat}{rows:LL}(h:Grid q n cols rows)(i:cols<=256)(j:n<=256):checkZ q (cols:Int) (nzs rows)=0:=by
 unfold checkZ;rw[if_neg (by rw[nzs_len,h.1];omega),if_neg,if_neg]
 . rw[Bool.not_eq_false,List.all_eq_true];intro r c;obtain⟨d,b,rfl⟩:=List.mem_map.1 c;unfold elemsB;rw[List.all_eq_true];intro x f;obtain⟨y,g,rfl⟩:=List.mem_map.1 f;have:=(h.2 d b).2 y g;unfold inB;simp;omega
 . rw[Bool.not_eq_false,List.all_eq_true];intro r c;obtain⟨d,b,rfl⟩:=List.mem_map.1 c;rw[qaA,(h.2 d b).1];simp
structure BXS (w:Wo) (bs:List (List Value)) (W:Wo):Prop where
 box:∀i cs,bs[i]?=some cs->W.heap[w.heap.size+i]?=some (.cells cs.toArray 32 (0,0))
 below:zB w W
 size:w.heap.size+bs.length<=W.heap.size
theorem errC_of{p m:Int}{mod:LI}{N:Nat}{rows:LL}(b:fieldOK p m mod=true)(c:Grid (p.toNat^m.toNat) rows.length N rows)(d:N<=64)(f:rows.length<=256):errC p m mod N (nzs rows)=0:=by unfold errC;rw[if_pos b];exact checkZ_ok c U0 U0
end Go.Proofs.YtkcdlealipfnbaaGreat
namespace Go.Proofs.YtkcdlealipfnbaaGreat
open Go.RowKit Pln Go.Proofs.Tryz
theorem sub_c(x y gb p m B:Nat)(md l:LN)(w:Wo)(s:FT p m md l)(t:GFAt w B gb p m l (logL l (p^m)))(_:B<=w.heap.size)(u:x<p^m)(v:y<p^m):
 zC 76 (Cf gb x y) w (Quiet (Y (((opsT p m l).add x ((opsT p m l).neg y):Nat):Int)) w):=by
 have h:=zH (neg_c y gb p m B l _ w s.small t v);have d:negD p m y<p^m:=qdP (by have:=s.small.p1;omega) m y
 have g:=zH<|fun n=>
  add_c x (negD p m y) gb p m B l _ (w.drewN n) s.small (t.keep (qaB zV n)) u d
 clear s t u v d;show Calls _ _ _ _ (Quiet (Y ((addD p m x (negD p m y):Nat):Int)) w);generalize negD p m y=j at *;generalize addD p m x j=r at *;go_enter func76,ntmps76;go_wp2_with fail;go_fit h.o;rintro e k ⟨rfl,n1,rfl⟩;have b:=zH (g.o n1);clear g h;obtain⟨i,c⟩:∃i,i=w.drewN n1:=⟨_,rfl⟩;rw[<- c] at b ⊢;have f:=zH c;clear c;go_wp2_with fail;go_fit b.o;rintro e q ⟨rfl,n2,rfl⟩;clear b;go_wp2;go_ret;exact⟨rfl,n1+n2,by rw[f.o,World.drewN_drewN]⟩
def zwK(f:Nat->Nat->Nat)(a b:LN)(t:Nat):LN:=(List.zipWith f a b).take t++a.drop t
theorem zwK_zero(f:Nat->Nat->Nat)(a b:LN):zwK f a b 0=a:=by simp[zwK]
theorem zwK_len{f:Nat->Nat->Nat}{a b:LN}(h:a.length=b.length){t:Nat}(c:t<=a.length):(zwK f a b t).length=a.length:=by unfold zwK;rw[List.length_append,List.length_take,List.length_zipWith,List.length_drop];omega
theorem zwK_all{f:Nat->Nat->Nat}{a b:LN}(h:a.length=b.length):zwK f a b a.length=List.zipWith f a b:=by unfold zwK;rw[List.drop_length,List.append_nil,List.take_of_length_le (by rw[List.length_zipWith];omega)]
theorem zwK_at{f:Nat->Nat->Nat}{a b:LN}(h:a.length=b.length){t:Nat}(c:t<a.length):(zwK f a b t).getD t 0=a.getD t 0:=by unfold zwK;simp only[List.getD];rw[List.getElem?_append_right (by rw[List.length_take,List.length_zipWith];omega),List.length_take,List.length_zipWith,show t-min t (min a.length b.length)=0 by omega,List.getElem?_drop,Nat.add_zero]
theorem zwK_get{f:Nat->Nat->Nat}{a b:LN}(h:a.length=b.length){t:Nat}(g:t<=a.length)(i:Nat):(zwK f a b t)[i]?=if i<t then(List.zipWith f a b)[i]? else a[i]?:=by
 have d:((List.zipWith f a b).take t).length=t:=by rw[List.length_take,List.length_zipWith];omega
 unfold zwK;by_cases c:i<t
 . rw[if_pos c,List.getElem?_append_left U0,List.getElem?_take_of_lt c]
 . rw[if_neg c,List.getElem?_append_right U0,d,List.getElem?_drop,show t+(i-t)=i by omega]
theorem zwK_set{f:Nat->Nat->Nat}{a b:LN}(h:a.length=b.length){t:Nat}(g:t<a.length):(zwK f a b t).set t (f (a.getD t 0) (b.getD t 0))=zwK f a b (t+1):=by
 have d:t<b.length:=U0;apply List.ext_getElem?;intro i;rw[List.getElem?_set,zwK_get h U0,zwK_get h U0,zwK_len h U0];by_cases e:t=i
 . subst e;rw[if_pos rfl,if_pos g,if_pos U0,List.getElem?_eq_getElem (by rw[List.length_zipWith];omega),List.getElem_zipWith];simp[List.getD,g,d]
 . rw[if_neg e];by_cases c:i<t
   . rw[if_pos c,if_pos U0]
   . rw[if_neg c,if_neg U0]
def subF(O:Ops)(y:Nat)(a b:Nat):Nat:=O.add a (O.neg (O.mul y b))
theorem subF_ok{q n:Nat}{O:Ops}(h:Al.Fld q O){y:Nat}(p:y<q){a b:LN}(m:Dv.Ok q n a)(o:Dv.Ok q n b):Dv.Ok q n (List.zipWith (subF O y) a b)/\∀ j,Al.wd h (List.zipWith (subF O y) a b) j=Al.wd h a j+-(Al.El.of h y*Al.wd h b j):=by
 have H:=Al.El.fd (h:=h);have k:=h.q1;refine⟨⟨by rw[List.length_zipWith,m.1,o.1,Nat.min_self],fun x hx=>?_⟩,fun j=>?_⟩
 . obtain⟨i,g,rfl⟩:=List.mem_iff_getElem.1 hx;rw[List.getElem_zipWith];rw[List.length_zipWith] at g;have d:=m.2 _ (List.getElem_mem (show i<a.length by omega));have c:=o.2 _ (List.getElem_mem (show i<b.length by omega));exact h.addL _ _ d (h.negL _ (h.mulL _ _ p c))
 . unfold Al.wd;by_cases f:j<n
   . (have e:(List.zipWith (subF O y) a b).getD j 0=subF O y (a.getD j 0) (b.getD j 0):=by rw[Al.getD_at (l:=a) (by rw[m.1];exact f),Al.getD_at (l:=b) (by rw[o.1];exact f),Al.getD_at (l:=List.zipWith (subF O y) a b) (by rw[List.length_zipWith,m.1,o.1];omega),List.getElem_zipWith]);have d:=Al.getD_ok m.2 U0 j;have c:=Al.getD_ok o.2 U0 j;rw[e];unfold subF;rw[Al.El.of_add d (h.negL _ (h.mulL _ _ p c)),Al.El.of_neg (h.mulL _ _ p c),Al.El.of_mul p c]
   . rw[qaZ (by rw[List.length_zipWith,m.1,o.1];omega),qaZ (by rw[m.1];omega),qaZ (by rw[o.1];omega),Al.El.of_zero,H.mulZ,H.negz,H.addZ]
end Go.Proofs.YtkcdlealipfnbaaGreat
namespace Go.Proofs.YtkcdlealipfnbaaGreat
open Pln
namespace Al
section
variable {q:Nat} {O:Ops} {h:Fld q O}
def fun_(h:Fld q O)(k:Nat)(c:Nat->El q O h)(v:LN):El q O h:=sm k fun i=>c i*wd h v i
structure BasP (h:Fld q O) (k:Nat) (G:LL) (bs:LL) (pl set:LN):Prop where
 len:pl.length=bs.length
 num:set.length=bs.length
 ok:∀r∈bs,Dv.Ok q k r
 lt:∀i,i<bs.length->pl.getD i 0<k
 one:∀i,i<bs.length->wd h (bs.getD i []) (pl.getD i 0)=1
 zero:∀i j,j<i->i<bs.length->wd h (bs.getD i []) (pl.getD j 0)=0
 lin:∀c:Nat->El q O h,(∀s∈set,fun_ h k c (colOf G s)=0)->∀r∈bs,fun_ h k c r=0
theorem BasP.nil(k:Nat)(G:LL):BasP h k G [] [] []:=⟨rfl,rfl,U2,U2,U2,U2,U2⟩
theorem BasP.inj{k:Nat}{G c:LL}{pl set:LN}(B:BasP h k G c pl set){i j:Nat}(f:j<i)(d:i<c.length):pl.getD j 0≠pl.getD i 0:=fun e=>by
 have b:=B.zero i j f d
 rw[e,B.one i d] at b
 exact(El.fd (h:=h)).ne b
theorem BasP.full{n:Nat}{G E:LL}{pl set:LN}(B:BasP h G.length G E pl set)(K:set.length=G.length){f:Nat->El q O h}(J:InC h n G f)(I:∀ s∈set,s<n)(L:∀ s∈set,f s=0):∀ j,j<n->f j=0:=by
 have H:=El.fd (h:=h);obtain⟨c,y⟩:=J;have C:E.length=G.length:=by rw[<- B.num,K]
 have g:∀s,s<n->fun_ h G.length c (colOf G s)=f s:=fun s I=>by rw[y s I];unfold fun_;refine H.sm_congr fun i hi=>?_;congr 1;unfold wd colOf;simp[List.getD,hi]
 have A:=B.lin c fun s l=>by rw[g s (I s l),L s l]
 have r:∀ j,j<G.length->pl.getD j 0<G.length:=fun j k=>B.lt j U0;have d:∀ t,t<=G.length->∀ i,G.length-t<=i->i<G.length->c (pl.getD i 0)=0:=by
  intro t;induction t with
  |zero=>intro _ i z o;omega
  | succ t m =>
   intro D i z o;have m:=m U0;by_cases e:G.length-t<=i
   . exact m i e o
   . have l : E.getD i [] ∈ E := mem_getD U0;have p:=A _ l;unfold fun_ at p
     rw [H.sm_one (i:=pl.getD i 0) (r i o) (fun j k hne=>by
      obtain⟨u,v,rfl⟩:=inj_surj (P:=fun j=>pl.getD j 0) r (fun a b hab hb=>B.inj hab U0) k
      by_cases x:u<i
      . rw[B.zero i u x U0,H.mulZ]
      . have : u ≠ i:=fun e=>hne (by rw[e])
        rw[m u U0 v,H.zmul]),B.one i U0,H.umul] at p
     exact p
 intro j k;rw[y j k];refine H.sm_zero fun i hi=>?_;obtain⟨u,v,rfl⟩:=inj_surj (P:=fun j=>pl.getD j 0) r (fun a b hab hb=>B.inj hab U0) hi;rw[d G.length zn u U0 v,H.zmul]
def redG(O:Ops)(bs:LL)(pl v:LN):Nat->LN
 |0=>v
 |t+1=>if(redG O bs pl v t).getD (pl.getD t 0) 0=0 then redG O bs pl v t else List.zipWith (subF O ((redG O bs pl v t).getD (pl.getD t 0) 0)) (redG O bs pl v t) (bs.getD t [])
theorem redG_ok{k:Nat}{G b:LL}{pl set v:LN}(B:BasP h k G b pl set)(c:Dv.Ok q k v):∀ t,t<=b.length->Dv.Ok q k (redG O b pl v t)
 |0,_=>c
 |t + 1,ht=>by
   have ih:=redG_ok B c t U0
   unfold redG
   split
   . exact ih
   . exact(subF_ok h (getD_ok ih.2 (by have:=h.q1;omega) _) ih (B.ok _ (mem_getD U0))).1
theorem redG_step{k:Nat}{G c:LL}{pl set v:LN}(B:BasP h k G c pl set)(f:Dv.Ok q k v){t:Nat}(d:t<c.length)(j:Nat):wd h (redG O c pl v (t+1)) j=wd h (redG O c pl v t) j+-(wd h (redG O c pl v t) (pl.getD t 0)*wd h (c.getD t []) j):=by
 have H:=El.fd (h:=h);have b:=redG_ok B f t U0;show wd h (if(redG O c pl v t).getD (pl.getD t 0) 0=0 then redG O c pl v t else List.zipWith (subF O ((redG O c pl v t).getD (pl.getD t 0) 0)) (redG O c pl v t) (c.getD t [])) j=_;split
 . rename_i e;(have:wd h (redG O c pl v t) (pl.getD t 0)=0:=by unfold wd;rw[e,El.of_zero]);rw[this,H.zmul,H.negz,H.zadd]
 . exact(subF_ok h (getD_ok b.2 (by have:=h.q1;omega) _) b (B.ok _ (mem_getD d))).2 j
theorem redG_zero{k:Nat}{G b:LL}{pl set v:LN}(B:BasP h k G b pl set)(c:Dv.Ok q k v):∀ t,t<=b.length->∀ j,j<t->wd h (redG O b pl v t) (pl.getD j 0)=0
 |0,_,j,hj=>by omega
 |t + 1,ht,j,hj=>by
   have H:=El.fd (h:=h)
   rw[redG_step B c U0 _]
   by_cases e:j=t
   . rw[e,B.one t U0,H.umul,H.addN]
   . rw[redG_zero B c t U0 j U0,B.zero t j U0 U0,H.mulZ,H.negz,H.zadd]
theorem redG_fun{k:Nat}{G g:LL}{pl set v:LN}(B:BasP h k G g pl set)(l:Dv.Ok q k v)(c:Nat->El q O h)(j:∀ r∈g,fun_ h k c r=0):∀ t,t<=g.length->fun_ h k c (redG O g pl v t)=fun_ h k c v
 |0,_=>rfl
 | t + 1,ht => by
   have H:=El.fd (h:=h)
   have f:=redG_fun B l c j t U0
   have b:=j _ (mem_getD (rows:=g) (i:=t) U0)
   rw[<- f]
   unfold fun_ at b ⊢
   have e:sm k (fun i=>c i*wd h (redG O g pl v (t+1)) i)=sm k (fun i=>c i*wd h (redG O g pl v t) i+-wd h (redG O g pl v t) (pl.getD t 0)*(c i*wd h (g.getD t []) i)):=H.sm_congr fun i hi=>by
    have d:∀x y z:El q O h,x*(y*z)=y*(x*z):=fun x y z=>by rw[<- H.mulA,H.mulC x,H.mulA]
    rw[redG_step B l U0 i,H.dist,H.mneg,H.negm,d (c i)]
   rw[e,H.sm_lin,b,H.mulZ,H.zadd]
theorem BasP.snoc{k p s:Nat}{G v:LL}{pl set:LN}(B:BasP h k G v pl set)(x:Dv.Ok q k (colOf G s))(z:p<k)(y:(redG O v pl (colOf G s) v.length).getD p 0≠0):
 BasP h k G (v++[scaleRow O (O.inv ((redG O v pl (colOf G s) v.length).getD p 0)) (redG O v pl (colOf G s) v.length)]) (pl++[p]) (set++[s]):=by
 have H:=El.fd (h:=h);have f:=redG_ok B x v.length zn;generalize o:redG O v pl (colOf G s) v.length=R at *;have m:R.getD p 0<q:=getD_ok f.2 (by have:=h.q1;omega) p;have b:=h.invL _ m y;have t:∀{i:Nat},i<v.length->(v++[scaleRow O (O.inv (R.getD p 0)) R]).getD i []=v.getD i []:=fun{i} b=>by simp[List.getD,List.getElem?_append_left b]
 have u:(v++[scaleRow O (O.inv (R.getD p 0)) R]).getD v.length []=scaleRow O (O.inv (R.getD p 0)) R:=by simp[List.getD]
 have d:∀{i:Nat},i<v.length->(pl++[p]).getD i 0=pl.getD i 0:=fun{i} b=>by have:=B.len;simp[List.getD,List.getElem?_append_left (show i<pl.length by omega)]
 have l:(pl++[p]).getD v.length 0=p:=by rw[<- B.len];simp[List.getD]
 refine⟨by simp[B.len],by simp[B.num],fun r hm=>?_,fun i b=>?_,fun i b=>?_,fun i j hj b=>?_,fun c hc r hm=>?_⟩
 . rcases List.mem_append.1 hm with hm|hm
   . exact B.ok r hm
   . rw[List.mem_singleton.1 hm];exact⟨by unfold scaleRow;rw[List.length_map,f.1],(qeG h.self b f.2).2⟩
 . rw[List.length_append,List.length_singleton] at b;by_cases e:i=v.length
   . rw[e,l];exact z
   . rw[d U0];exact B.lt i U0
 . rw[List.length_append,List.length_singleton] at b;by_cases e:i=v.length
   . rw[e,u,l,wd_scale am f.2];show El.of h (O.inv (R.getD p 0))*El.of h (R.getD p 0)=1;rw[<- El.of_mul am m,h.mulC _ _ am m,h.inv _ m y,El.of_one]
   . rw[t U0,d U0];exact B.one i U0
 . rw[List.length_append,List.length_singleton] at b;by_cases e:i=v.length
   . rw[e,u,d U0,wd_scale am f.2,<- o,redG_zero B x _ zn j U0,H.mulZ]
   . rw[t U0,d U0];exact B.zero i j hj U0
 . have g:=B.lin c fun s hs=>hc s (List.mem_append_left _ hs);rcases List.mem_append.1 hm with hm|hm
   . exact g r hm
   . rw[List.mem_singleton.1 hm];have n:=redG_fun B x c g v.length zn;rw[o,hc s U2] at n;unfold fun_ at n ⊢;(have e:sm k (fun i=>c i*wd h (scaleRow O (O.inv (R.getD p 0)) R) i)=sm k (fun i=>El.of h (O.inv (R.getD p 0))*(c i*wd h R i)):=H.sm_congr fun i _=>by rw[wd_scale am f.2,<- H.mulA,H.mulC (c i),H.mulA]);rw[e,H.sm_mul,n,H.mulZ]
def Cl(h:Fld q O)(n w:Nat)(G:LL)(S Z:LN):Prop:=∀f,InC h n G f->(∀i∈S,f i≠0)->(∀i∈Z,f i=0)->wf n f<=w->∀j,j<n->f j=0
def Kids(h:Fld q O)(n w:Nat)(G:LL)(S:LN):LN->LN->Prop
 |_,[]=>True
 |Z,i :: r=>if i∈Z then Kids h n w G S Z r else Cl h n w G (S++[i]) Z/\Kids h n w G S (Z++[i]) r
theorem kids_law{n w:Nat}{G:LL}{S:LN}{f:Nat->El q O h}(d:InC h n G f)(c:∀ i∈S,f i≠0)(g:wf n f<=w):∀ (set Z:LN),Kids h n w G S Z set->(∀ i∈Z,f i=0)->(∀ j,j<n->f j=0)\/∀ i∈set,f i=0
 |[],_,_,_=>.inr U2
 | i :: r,Z,hk,hZ => by
   unfold Kids at hk
   have hcons:f i=0->((∀j,j<n->f j=0)\/∀i∈r,f i=0)->(∀j,j<n->f j=0)\/∀x∈i :: r,f x=0:=fun b ho=>ho.imp id fun hr x hx=>by
    rcases List.mem_cons.1 hx with rfl|hx
    . exact b
    . exact hr x hx
   split at hk
   . rename_i hi
     exact hcons (hZ i hi) (kids_law d c g r Z hk hZ)
   . by_cases b : f i = 0
     . exact hcons b (kids_law d c g r _ hk.2 fun x hx => by
        rcases List.mem_append.1 hx with hx|hx
        . exact hZ x hx
        . rw[List.mem_singleton.1 hx]
          exact b)
     . exact .inl (hk.1 f d (fun x hx => by
        rcases List.mem_append.1 hx with hx|hx
        . exact c x hx
        . rw[List.mem_singleton.1 hx]
          exact b) hZ g)
theorem node_law{n w:Nat}{G:LL}{S Z set:LN}(b:∀f:Nat->El q O h,InC h n G f->(∀i∈set,f i=0)->∀j,j<n->f j=0)(c:Kids h n w G S Z set):Cl h n w G S Z:=fun f hf hS hZ hw=>by
 rcases kids_law hf hS hw set Z c hZ with h1|h1
 . exact h1
 . exact b f hf h1
theorem mem_getD'{L:LN}{j:Nat}(b:j<L.length):L.getD j 0∈L:=by rw[getD_at b];exact List.getElem_mem b
theorem nz_places{n:Nat}{f:Nat->El q O h}{L:LN}(k:L.Nodup)(l:∀i∈L,i<n)(g:∀i∈L,f i≠0):L.length<=wf n f:=by
 have d:=ns_inj (n:=n) (N:=L.length) (P:=fun j=>L.getD j 0) (fun i=>if(f i).n=0 then 0 else 1) (fun j hj=>l _ (mem_getD' hj)) (fun i j hij hj e=>by
  have b:i<L.length:=U0
  rw[getD_at b,getD_at hj] at e
  exact Nat.lt_irrefl _ ((List.getElem_inj (h₀:=b) (h₁:=hj) k).1 e ▸ hij))
 refine Nat.le_trans (Nat.le_of_eq ?_) d;have c:ns L.length (fun j=>if(f (L.getD j 0)).n=0 then 0 else 1)=ns L.length fun _=>1:=ns_congr fun j hj=>if_neg fun e=>g _ (mem_getD' hj) (El.n_zero.1 e);rw[c,ns_one]
theorem leaf_node{n:Nat}{G:LL}{S Z set:LN}(c:∀ f:Nat->El q O h,InC h n G f->(∀ i∈set,f i=0)->∀ j,j<n->f j=0)(d:S.Nodup)(g:∀ i∈S,i<n)(b:∀ i∈set,i<n/\i∉S):Cl h n S.length G S Z:=fun f hf h0 _ hw=>by
 refine c f hf fun i hi=>?_
 by_cases e:f i=0
 . exact e
 . have := nz_places (n := n) (f := f) (L := i :: S) (List.nodup_cons.2 ⟨(b i hi).2,d⟩) (fun x hx => by
    rcases List.mem_cons.1 hx with rfl|hx
    . exact(b _ hi).1
    . exact g x hx) (fun x hx=>by
    rcases List.mem_cons.1 hx with rfl|hx
    . exact e
    . exact h0 x hx)
   rw[List.length_cons] at this
   omega
end
end Al
end Go.Proofs.YtkcdlealipfnbaaGreat
namespace Go.Proofs.YtkcdlealipfnbaaGreat
open Go.RowKit Pln
def RelRe(wb:Wo)(B g c:Nat)(f:Nat->Nat->Nat)(rest row:LN)(v38:Value)(wr:Wo):Prop:=
 ∃t:Nat,t<=rest.length/\v38=Y t/\Row wr B g c (nz (zwK f rest row t))/\wb.grownBy wr (some g)
structure BXT (w:Wo) (bs:List (List Value × TypeId)) (W:Wo):Prop where
 box:∀i cs t,bs[i]?=some (cs,t)->W.heap[w.heap.size+i]?=some (.cells cs.toArray t (0,0))
 below:zB w W
 size:w.heap.size+bs.length<=W.heap.size
section
variable {w W W':Wo} {bs:List (List Value × TypeId)}
theorem BXT.low(h:BXT w bs W){B:Nat}(b:Below B W W')(d:w.heap.size+bs.length<=B)(c:W.heap.size<=W'.heap.size):BXT w bs W':=
 ⟨fun i cs t hi=>(b.block _ (by have:=(List.getElem?_eq_some_iff.1 hi).1;omega)).trans (h.box i cs t hi),h.below.trans (b.mono U0),Nat.le_trans h.size c⟩
theorem BXT.grow(h:BXT w bs W)(b:zB W W'):BXT w bs W':=h.low b h.size b.size
theorem BXT.cell(h:BXT w bs W){i k:Nat}{cs:List Value}{t:TypeId}{v:Value}(b:bs[i]?=some (cs,t))(c:cs[k]?=some v):W.cell? (zA (w.heap.size+i) k)=some v:=by rw[cell_of_row W _ k _ _ _ (h.box i cs t b)];simpa using c
theorem BXT.range(h:BXT w bs W){i:Nat}{cs:List Value}{t:TypeId}(b:bs[i]?=some (cs,t)):W.rangeAt (w.heap.size+i) 0 cs:=range_of_row (h.box i cs t b)
theorem BXT.nil(w:Wo):BXT w [] w:=⟨fun i cs t hi=>by simp at hi,Below.refl _ _,U2⟩
theorem BXT.push(h:BXT w bs W)(f:W.heap.size=w.heap.size+bs.length)(cs:List Value)(t:TypeId):BXT w (bs++[(cs,t)]) (W.alloc (.cells cs.toArray t)):=by
 refine⟨fun i cs' t' hi=>?_,h.below.alloc U0 _,so⟩;by_cases c:i<bs.length
 . rw[List.getElem?_append_left c] at hi;exact(heap_alloc_old _ _ U0).trans (h.box i cs' t' hi)
 . (have b:i=bs.length:=by have:=(List.getElem?_eq_some_iff.1 hi).1;simp at this;omega);subst b;(have d:(cs,t)=(cs',t'):=by simpa using hi);injection d with e1 e2;subst e1 e2;exact alloc_at f _
end
end Go.Proofs.YtkcdlealipfnbaaGreat
namespace Go.Proofs.YtkcdlealipfnbaaGreat
open Go.RowKit Pln Go.Proofs.Tryz
theorem mod_small{p m:Int}{mod:LI}(h:fieldOK p m mod=true):mod.length<=8:=by
 have b:shapeM p m mod=true:=by unfold fieldOK at h;rw[Bool.and_eq_true] at h;exact h.1
 have d:=shape_is b;have f:=d.small.m2;by_cases c:m=1
 . unfold shapeM at b;rw[if_pos c,Bool.and_eq_true] at b;have:=b.2;rw[beq_iff_eq] at this;omega
 . have:=d.len c;omega
theorem rparity_c{p m:Nat}{md:LN}{A:OA}{n cols:Nat}{rows:LL}{z:OA}{w:Wo}(h:RCode p m md A n cols rows z w)(c ch:Nat):
 zC 45 #[Ca p m A n c cols z rows.length ch] w (NullPost w (p^m) cols):=by
 have b:=zH (bx_new w (C2 p m A n c cols z rows.length ch) 32);have g:=h.n1;have q:=h.n2;have i:=h.len;have r:zK (∀W:Wo,zB w W->zC 93 #[C6 p m A n c,zL z rows.length ch,Y cols] W (NullPost W (p^m) cols)):=fun W hW=>by have j:=h.lift hW;exact rnull_c p m md A n c rows z ch cols W j.fld j.ft j.grid j.at_ g U0 i
 clear h;go_enter func45,ntmps45;go_upto_region 1 with fail;generalize w.alloc (C9 p m A n c cols z rows.length ch)=l at *;have f:=zH b.o.field;have d:=zH (r.o l b.o.below);have v:l.cell? (zA w.heap.size 3)=some (Y (cols:Int)):=b.o.cell rfl;have x:l.cell? (zA w.heap.size 4)=some (zL z rows.length ch):=b.o.cell rfl;go_wp2_with (refine wpList_load_mid rfl 29 (.tmp 3) rfl w.heap.size 0 rfl (C7 p m A n c) _ f.o underlying29 rfl fieldSize ?_);refine d.o.mono ?_;rintro e y ⟨⟨A',R,ck,rfl,g,q,i⟩,hb⟩;have k:=zH (b.o.grow hb);have s:=zH g;have t:=zH q;have u:=zH i;clear hb g q i r d b f v x;go_wp2;go_ret;exact⟨⟨A',R,ck,rfl,s.out,t.out,u.out⟩,k.o.below⟩
def DualPost(w:Wo)(d:StD)(e:Ending)(w':Wo):Prop:=
 (∃(A':OA)(c':Nat)(G:OA)(R:LL)(k:Nat),e=.returned (.tuple #[Ca d.p d.m A' d.mod.length c' d.n G R.length k,Y 0])/\zI w' A' d.mod/\zR w' G (nzs R)/\R.length<=256)/\zB w w'
theorem rdual_c(d:StD)(Am:OA)(cm:Nat)(A:OA)(c:Nat)(w:Wo)(hz:codeZ d.p d.m d.mod d.n d.gen=0)(hM:zI w Am d.mod)(hA:zR w A d.gen):
 zC 26 #[Ca d.p d.m Am d.mod.length cm d.n A d.gen.length c] w (DualPost w d):=by
 have z:=zH (b2_new w (C2 d.p d.m Am d.mod.length cm d.n A d.gen.length c) 32 (Cu) 32);obtain⟨C,n1,n2,N,g,S⟩:=qfR hz;have Z:=mod_small C;have u:=zH hM;have E:=zH hA;have t:=zH<|fun W b=>by have:=rcodecheck_c d.p d.m d.mod Am cm d.n d.gen A c W ((u.o.keep b).more b.size) U0 ((E.o.keep b).more b.size) U0;rw[hz] at this;exact this
 obtain⟨_,J,K,L,M⟩:=code_nat hz hM hA;have x:zK (∀W:Wo,zB w W->zC 45 #[Ca d.p d.m Am d.mod.length cm d.n A d.gen.length c] W (NullPost W (d.p.toNat^d.m.toNat) d.n.toNat)):=fun W b=>by obtain⟨i,_⟩:=code_nat hz ((u.o.keep b).more b.size) ((E.o.keep b).more b.size);have:=rparity_c i cm c;rw[J,K,L,M] at this;exact this
 have v:=zH<|fun R A2 c2 W b hg hr hl=>by obtain⟨i,_⟩:=code_nat hz ((u.o.keep b).more b.size) ((E.o.keep b).more b.size);have:=rmake_c d.p.toNat d.m.toNat (mdOf d.m d.mod) Am d.mod cm R A2 c2 d.n.toNat W i.fld i.ft ((u.o.keep b).more b.size) U0 hg hr U0 U0 hl;unfold MakePost at this;rw[J,K,L] at this;exact this
 have X:=M;clear hM hA hz C N g J K L M u E;generalize d.p.toNat^d.m.toNat=q at *;generalize d.n.toNat=nn at *;go_enter func26,ntmps26;go_upto_region 1 with fail;generalize (w.alloc (C9 d.p d.m Am d.mod.length cm d.n A d.gen.length c)).alloc (Ci)=U at *;have y:=zH z.o.range;have s:=zH (t.o U z.o.below);go_wp2_with (refine wpList_load_mid rfl 32 (.tmp 1) rfl w.heap.size 0 rfl (C2 d.p d.m Am d.mod.length cm d.n A d.gen.length c) _ y.o underlying32 rfl codeSize ?_);refine s.o.mono ?_;rintro e w1 ⟨rfl,hb1⟩;have B:=zH (z.o.grow hb1);have aa:=z.o.2.2.2;clear hb1 s y z t;go_upto_region 4 with fail;have l:=zH<|B.o.grow zV.drew
 refine qaS 7 7 (B2 w (C2 d.p d.m Am d.mod.length cm d.n A d.gen.length c) 32 (Cu) 32) [(1,0),(0,1),(0,2),(1,4),(0,5),(2,3),(2,6)] default U1 U1 (fun _ _ d _ _ h=>by cases d<;>exact h) l.o ?_;simp only[List.map_cons,List.map_nil,List.getD_cons_zero,List.getD_cons_succ];generalize w1.drew=V at *;clear B;apply qaM rfl
 . intro W;go_simp;rfl
 go_simp;refine qaT rfl 29 (.tmp 11) rfl w.heap.size 0 rfl (C7 d.p d.m Am d.mod.length cm) _ (fun W b=>b.field) underlying29 rfl fieldSize ?_;go_simp;refine qaT rfl 32 (.tmp 1) rfl w.heap.size 0 rfl (C2 d.p d.m Am d.mod.length cm d.n A d.gen.length c) _ (fun W b=>b.range) underlying32 rfl codeSize ?_;go_simp;apply qaM rfl
 . intro W;go_simp;rfl
 go_simp;apply qbF rfl
 . intro W b;have z0:W.cell? (zA w.heap.size 3)=some (Y d.n):=b.cell rfl;go_simp;rfl
 go_simp;apply qbE rfl
 . go_simp;exact⟨rfl,rfl⟩
 with_reducible refine(x.o V l.o.below).mono ?_
 rintro e O ⟨⟨A',R,ck,rfl,hra,g,hrl⟩,hb2⟩;have f:=zH (l.o.grow hb2);have j:=zH (v.o R A' ck O f.o.below g hra hrl);refine⟨_,rfl,f.o,?_⟩;clear hb2 hra g v x;go_simp;apply qbE rfl
 . go_simp;exact⟨rfl,rfl⟩
 with_reducible refine j.o.mono ?_
 rintro e D ⟨⟨B',c',G,R',k',rfl,hi3,hr3,hl3⟩,hb3⟩;have r:=zH (f.o.grow hb3);have H:=zH hi3;have I:=zH hr3;have ab:=f.o.2.2.2;refine⟨_,rfl,r.o,?_⟩;clear hb3 hi3 hr3 j;go_simp;refine qbH ?_;show wpList _ _ _ _ _ _;go_simp;have T:=zH r.o.2.1;have Q:=zH (r.o.set (C2 d.p d.m B' d.mod.length c' d.n G R'.length k'));go_wp2_with (refine wpList_store_row rfl 32 (.tmp 2) (.tmp 17) rfl D (w.heap.size+1) 32 (Ct) (Cd d.p d.m B' d.mod.length c' d.n G R'.length k') rfl rfl T.o codeSize rfl sc ?_);refine bodyPost_ret (results_row_one (P:=prog) rfl _ _ (w.heap.size+1) 32 (Cd d.p d.m B' d.mod.length c' d.n G R'.length k') (0,0) _ _ rfl rfl Q.o.2.1 underlying32 rfl codeSize) rfl ?_;have hu:IntsUp (D.setRow (w.heap.size+1) (Cd d.p d.m B' d.mod.length c' d.n G R'.length k')) O.heap.size B' d.mod:=H.o.of_blocks U2 fun k hk _=>setRow_other D (w.heap.size+1) k _ U0;have hv:RowsUp (D.setRow (w.heap.size+1) (Cd d.p d.m B' d.mod.length c' d.n G R'.length k')) O.heap.size G (nzs R'):=I.o.of_blocks U2 fun k hk _=>setRow_other D (w.heap.size+1) k _ U0;exact⟨⟨B',c',G,R',k',rfl,hu.ints,hv.rowsAt,hl3⟩,Q.o.below⟩
end Go.Proofs.YtkcdlealipfnbaaGreat
