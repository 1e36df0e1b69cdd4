/- Parts of the proof. -/
import Derived.Test.YtflejelbdlelpaaGreatR14
import Derived.OrdersIn
import Derived.RangeFuncSeq
set_option maxRecDepth 100000
set_option maxHeartbeats 8000000
namespace Go.Proofs.YtflejelbdlelpaaGreat
open Pln
namespace Al
structure Fld (q:Nat) (O:Ops):Prop where
 q1:1<q
 addL:∀x y,x<q->y<q->O.add x y<q
 mulL:∀x y,x<q->y<q->O.mul x y<q
 negL:∀x,x<q->O.neg x<q
 invL:∀x,x<q->x≠0->O.inv x<q
 addC:∀x y,x<q->y<q->O.add x y=O.add y x
 addA:∀x y z,x<q->y<q->z<q->O.add (O.add x y) z=O.add x (O.add y z)
 addZ:∀x,x<q->O.add 0 x=x
 addN:∀x,x<q->O.add x (O.neg x)=0
 mulC:∀x y,x<q->y<q->O.mul x y=O.mul y x
 mulA:∀x y z,x<q->y<q->z<q->O.mul (O.mul x y) z=O.mul x (O.mul y z)
 mulU:∀x,x<q->O.mul 1 x=x
 mulZ:∀x,x<q->O.mul 0 x=0
 dist:∀x y z,x<q->y<q->z<q->O.mul x (O.add y z)=O.add (O.mul x y) (O.mul x z)
 inv:∀x,x<q->x≠0->O.mul x (O.inv x)=1
theorem addD_s(p k x y:Nat):addD p (k+1) x y=(x % p+y % p) % p+p*addD p k (x / p) (y / p):=rfl
theorem negD_s(p k x:Nat):negD p (k+1) x=(p-x % p) % p+p*negD p k (x / p):=rfl
theorem addD_mod{p:Nat}(_:0<p)(k x y:Nat):addD p (k+1) x y % p=(x+y) % p:=by rw[addD_s,Nat.add_mul_mod_self_left,Nat.mod_mod,<- Nat.add_mod]
theorem addD_div{p:Nat}(b:0<p)(k x y:Nat):addD p (k+1) x y / p=addD p k (x / p) (y / p):=by rw[addD_s,Nat.add_mul_div_left _ _ b,Nat.div_eq_of_lt (Nat.mod_lt _ b),Nat.zero_add]
theorem addD_comm(p:Nat):∀ k x y,addD p k x y=addD p k y x
 |0,_,_=>rfl
 |k + 1,x,y=>by
   rw[addD_s,addD_s,addD_comm p k,Nat.add_comm (x % p)]
theorem addD_assoc{p:Nat}(b:0<p):∀ k x y z,addD p k (addD p k x y) z=addD p k x (addD p k y z)
 |0,_,_,_=>rfl
 |k + 1,x,y,z=>by
   show(addD p (k+1) x y % p+z % p) % p+p*addD p k (addD p (k+1) x y / p) (z / p)=(x % p+addD p (k+1) y z % p) % p+p*addD p k (x / p) (addD p (k+1) y z / p)
   rw[addD_mod b,addD_div b,addD_mod b,addD_div b,addD_assoc b k,<- Nat.add_mod,<- Nat.add_mod,Nat.add_assoc]
theorem addD_id{p:Nat}(b:0<p):∀ k x,x<p ^ k->addD p k 0 x=x
 |0,x,h=>by
   simp at h
   subst h
   rfl
 |k + 1,x,h=>by
   have h1:x / p<p^k:=by rw[Nat.div_lt_iff_lt_mul b];rwa [Nat.pow_succ] at h
   rw[addD_s,Nat.zero_mod,Nat.zero_add,Nat.mod_mod,Nat.zero_div,addD_id b k _ h1]
   exact Nat.mod_add_div x p
theorem addD_neg{p:Nat}(f:0<p):∀ k x,addD p k x (negD p k x)=0
 |0,_=>rfl
 | k + 1,x => by
   have h1:negD p (k+1) x % p=(p-x % p) % p:=by
    rw[negD_s,Nat.add_mul_mod_self_left,Nat.mod_mod]
   have b:negD p (k+1) x / p=negD p k (x / p):=by
    rw[negD_s,Nat.add_mul_div_left _ _ f,Nat.div_eq_of_lt (Nat.mod_lt _ f),Nat.zero_add]
   have d:x % p<p:=Nat.mod_lt _ f
   show(x % p+negD p (k+1) x % p) % p+p*addD p k (x / p) (negD p (k+1) x / p)=0
   rw[h1,b,addD_neg f k]
   have c:(x % p+(p-x % p) % p) % p=0:=by
    rw[Nat.add_mod_mod,show x % p+(p-x % p)=p by omega,Nat.mod_self]
   rw[c]
   rfl
def zw(p:Nat)(a b:LN):LN:=List.zipWith (fun x y=>(x+y) % p) a b
theorem zw_dig{p m:Nat}(h:0<p){a b:LN}(f:a.length=m)(g:b.length=m):Dig p m (zw p a b):=by refine⟨by simp[zw,f,g],fun d hd=>?_⟩;unfold zw at hd;obtain⟨i,c,rfl⟩:=List.mem_iff_getElem.1 hd;rw[List.getElem_zipWith];exact Nat.mod_lt _ h
theorem zw_F{p m:Nat}{a b:LN}(d:a.length=m)(f:b.length=m):Cg p (F (zw p a b)) (fun j=>1*F a j+F b j):=by
 refine Cg.mk fun j=>?_;unfold F zw;by_cases c:j<m
 . (have e:(List.zipWith (fun x y=>(x+y) % p) a b).getD j 0=(a.getD j 0+b.getD j 0) % p:=by simp[List.getD,List.getElem?_zipWith,List.getElem?_eq_getElem (show j<a.length by omega),List.getElem?_eq_getElem (show j<b.length by omega)]);rw[e];simp
 . rw[qaZ so,qaZ U0,qaZ U0];simp
theorem mulL_dist{p m:Nat}(j:0<p)(md a b c:LN)(k:a.length=m)(l:b.length=m)(n:c.length=m):Pln.mulL p m md a (zw p b c)=zw p (Pln.mulL p m md a b) (Pln.mulL p m md a c):=by have d:=qaW (m:=m) j md a b;have f:=qaW (m:=m) j md a c;have g:=qaW (m:=m) j md a (zw p b c);have i:=zw_dig j l n;have h:=zw_dig j d.1 f.1;refine F_inj (g.1.trans h.1.symm) g.2 h.2 ?_;refine(qbJ j md a _ k i.1).trans (Cg.trans ?_ (zw_F d.1 f.1).symm);refine(mz_cg (Cg.refl _ _) (zw_F l n)).trans (Cg.trans (Cg.of_eq ?_) (Cg.lin 1 (qbJ j md a b k l).symm (qbJ j md a c k n).symm));unfold mz;exact qdZ m (F md) 1 (F b) (F c) (F a) m
theorem digs_add{p:Nat}(b:0<p)(m x y:Nat):digs p m (addD p m x y)=zw p (digs p m x) (digs p m y):=by have h:=zw_dig b (qaK p m x) (qaK p m y);rw[addD_val];have:=qcR b _ h.2;rw[h.1] at this;exact this
theorem val_zw{p:Nat}(h:0<p){m:Nat}{a b:LN}(f:Dig p m a)(g:Dig p m b):val p (zw p a b)=addD p m (val p a) (val p b):=by have c:=qcR h _ f.2;have d:=qcR h _ g.2;rw[f.1] at c;rw[g.1] at d;rw[addD_val,c,d];rfl
theorem mulM_dist{p m:Nat}(b:0<p)(md:LN)(x y z:Nat):mulM p m md x (addD p m y z)=addD p m (mulM p m md x y) (mulM p m md x z):=by unfold mulM;rw[digs_add b,mulL_dist b md _ _ _ (qaK p m x) (qaK p m y) (qaK p m z)];exact val_zw b (qaW b md _ _) (qaW b md _ _)
theorem fld_of{p m:Nat}{md l:LN}(h:FT p m md l):Fld (p^m) (opsT p m l):=by
 have d:0<p:=by have:=h.small.p1;omega
 have H:=qaV (p:=p) (m:=m) (by have:=h.small.p1;omega) h.small.m1 md;have E:∀x y,x<p^m->y<p^m->(opsT p m l).mul x y=mulM p m md x y:=fun x y b c=>h.tab.mul_eq H b c;have M:∀x y,x<p^m->y<p^m->(opsT p m l).mul x y<p^m:=fun x y b c=>mulT_lt h b c;have A:∀x y,(opsT p m l).add x y<p^m:=fun x y=>qdR d m x y;refine⟨H.q1,fun x y _ _=>A x y,M,fun x _=>qdP d m x,fun x b g=>(h.tab.inv H g b).2.1,fun x y _ _=>addD_comm p m x y,fun x y z _ _ _=>addD_assoc d m x y z,fun x b=>addD_id d m x b,fun x _=>addD_neg d m x,?_,?_,?_,?_,?_,?_⟩
 . intro x y b c;rw[E x y b c,E y x c b];exact H.comm x y
 . intro x y z b c f;rw[E _ z (M x y b c) f,E x y b c,E x _ b (M y z c f),E y z c f];exact H.assoc x y z
 . intro x b;rw[E 1 x H.q1 b];exact H.one x b
 . intro x b;rw[E 0 x (by have:=H.q1;omega) b];exact H.zero x
 . intro x y z b c f;rw[E x _ b (A y z),E x y b c,E x z b f];exact mulM_dist d md x y z
 . intro x b g;exact(E x _ b (h.tab.inv H g b).2.1).trans (h.tab.inv H g b).1
end Al
end Go.Proofs.YtflejelbdlelpaaGreat
namespace Go.Proofs.YtflejelbdlelpaaGreat
namespace Al
structure Fd (K:Type) [Add K] [Mul K] [Neg K] [Zero K] [One K]:Prop where
 addC:∀x y:K,x+y=y+x
 addA:∀x y z:K,x+y+z=x+(y+z)
 addZ:∀x:K,0+x=x
 addN:∀x:K,x+-x=0
 mulC:∀x y:K,x*y=y*x
 mulA:∀x y z:K,x*y*z=x*(y*z)
 mulU:∀x:K,1*x=x
 dist:∀x y z:K,x*(y+z)=x*y+x*z
 inv:∀x:K,x≠0->∃y:K,x*y=1
 ne:(1:K)≠0
section
variable {K:Type} [Add K] [Mul K] [Neg K] [Zero K] [One K]
def pwr(x:K):Nat->K
 |0=>1
 |n+1=>pwr x n*x
def sm(n:Nat)(f:Nat->K):K:=
 match n with
 |0=>0
 |n+1=>sm n f+f n
theorem Fd.zadd(H:Fd K)(x:K):x+0=x:=by rw[H.addC,H.addZ]
theorem Fd.nadd(H:Fd K)(x:K):-x+x=0:=by rw[H.addC,H.addN]
theorem Fd.cancel(H:Fd K){x y z:K}(h:x+y=x+z):y=z:=by
 have b:-x+(x+y)=-x+(x+z):=by rw[h]
 rwa [<- H.addA,<- H.addA,H.nadd,H.addZ,H.addZ] at b
theorem Fd.mulZ(H:Fd K)(x:K):x*0=0:=by have h:=H.dist x 0 0;rw[H.addZ] at h;exact H.cancel (x:=x*0) (by rw[<- h,H.zadd])
theorem Fd.zmul(H:Fd K)(x:K):0*x=0:=by rw[H.mulC,H.mulZ]
theorem Fd.umul(H:Fd K)(x:K):x*1=x:=by rw[H.mulC,H.mulU]
theorem Fd.rdist(H:Fd K)(x y z:K):(x+y)*z=x*z+y*z:=by rw[H.mulC,H.dist,H.mulC z x,H.mulC z y]
theorem Fd.negm(H:Fd K)(x y:K):-x*y=-(x*y):=by refine H.cancel (x:=x*y) ?_;rw[<- H.rdist,H.addN,H.zmul,H.addN]
theorem Fd.mneg(H:Fd K)(x y:K):x*-y=-(x*y):=by rw[H.mulC,H.negm,H.mulC]
theorem Fd.subz(H:Fd K){x y:K}(h:x+-y=0):x=y:=by
 have b:x+-y+y=0+y:=by rw[h]
 rwa [H.addA,H.nadd,H.zadd,H.addZ] at b
theorem Fd.negu(H:Fd K){x y:K}(h:x+y=0):y=-x:=H.cancel (x:=x) (by rw[h,H.addN])
theorem Fd.mulne(H:Fd K){x y:K}(d:x≠0)(f:y≠0):x*y≠0:=fun h=>by
 obtain⟨z,c⟩:=H.inv x d
 have b:z*(x*y)=z*0:=by rw[h]
 rw[<- H.mulA,H.mulC z x,c,H.mulU,H.mulZ] at b
 exact f b
theorem Fd.sm_zero(H:Fd K){n:Nat}{f:Nat->K}(h:∀j,j<n->f j=0):sm n f=0:=by
 induction n with
 |zero=>rfl
 |succ n ih=>show sm n f+f n=0;rw[ih fun j hj=>h j U0,h n U0,H.addZ]
theorem Fd.sm_congr(_:Fd K){n:Nat}{f g:Nat->K}(h:∀j,j<n->f j=g j):sm n f=sm n g:=by
 induction n with
 |zero=>rfl
 |succ n ih=>show sm n f+f n=sm n g+g n;rw[ih fun j hj=>h j U0,h n U0]
theorem Fd.sm_add(H:Fd K)(n:Nat)(f g:Nat->K):sm n (fun j=>f j+g j)=sm n f+sm n g:=by
 induction n with
 |zero=>exact(H.addZ 0).symm
 |succ n ih=>show sm n (fun j=>f j+g j)+(f n+g n)=(sm n f+f n)+(sm n g+g n);rw[ih,H.addA,H.addA,<- H.addA (sm n g),H.addC (sm n g) (f n),H.addA]
theorem Fd.sm_mul(H:Fd K)(n:Nat)(a:K)(f:Nat->K):sm n (fun j=>a*f j)=a*sm n f:=by
 induction n with
 |zero=>exact(H.mulZ a).symm
 |succ n ih=>show sm n (fun j=>a*f j)+a*f n=a*(sm n f+f n);rw[ih,H.dist]
theorem Fd.sm_lin(H:Fd K)(n:Nat)(a:K)(f g:Nat->K):sm n (fun j=>f j+a*g j)=sm n f+a*sm n g:=by rw[H.sm_add,H.sm_mul]
theorem Fd.sm_one(H:Fd K){n i:Nat}{f:Nat->K}(b:i<n)(h:∀j,j<n->j≠i->f j=0):sm n f=f i:=by
 induction n with
 |zero=>omega
 |succ n ih=>
  show sm n f+f n=f i;by_cases e:i=n
  . subst e;rw[H.sm_zero fun j hj=>h j U0 U0,H.addZ]
  . rw[ih U0 fun j hj hne=>h j U0 hne,h n U0 (fun e2=>e e2.symm),H.zadd]
def ev:List K->K->K
 |[],_=>0
 |a :: r,x=>a+x*ev r x
end
end Al
end Go.Proofs.YtflejelbdlelpaaGreat
namespace Go.Proofs.YtflejelbdlelpaaGreat
open Go.RowKit Pln
theorem natR_nzs(rows:LL):natR (nzs rows)=rows:=by
 unfold natR nzs nz;rw[List.map_map];conv=>rhs;rw[<- List.map_id rows]
 apply List.map_congr_left;intro r _;show(r.map fun x:Nat=>(x:Int)).map Int.toNat=id r;rw[List.map_map];conv=>rhs;rw[id,<- List.map_id r]
 apply List.map_congr_left;intro x _;simp
theorem errC_grid{p m:Int}{mod:LI}{cols:Int}{rows:LL}(h:errC p m mod cols (nzs rows)=0):fieldOK p m mod=true/\checkZ (p.toNat^m.toNat) cols (nzs rows)=0/\Grid (p.toNat^m.toNat) rows.length cols.toNat rows/\0<=cols/\cols<=256/\rows.length<=256:=by
 obtain⟨b,f⟩:fieldOK p m mod=true/\checkZ (p.toNat^m.toNat) cols (nzs rows)=0:=by
  unfold errC at h;split at h
  . exact⟨am,h⟩
  . simp at h
 obtain⟨_,c,g,i,d⟩:=qfY f;rw[natR_nzs] at c;rw[nzs_len] at d;exact⟨b,f,c,g,i,d⟩
structure BoxH2 (w:Wo) (f a b r:Array Value) (W:Wo):Prop where
 below:zB w W
 size:w.heap.size+3<W.heap.size
 k1:W.heap[w.heap.size+1]?=some (.cells a 60 (0,0))
 k2:W.heap[w.heap.size+1+1]?=some (.cells b 60 (0,0))
 k3:W.heap[w.heap.size+1+1+1]?=some (.cells r 60 (0,0))
section
variable {w:Wo} {f a b r:Array Value} {W W':Wo}
theorem alloc_at{w:Wo}{n:Nat}(h:w.heap.size=n)(o:Obj):(w.alloc o).heap[n]?=some o:=by subst h;exact heap_alloc_new _ _
end
def LSt(w0 W:Wo):Prop:=zB w0 W
end Go.Proofs.YtflejelbdlelpaaGreat
namespace Go.Proofs.YtflejelbdlelpaaGreat
open Go.RowKit Pln Go.Proofs.Tryz
theorem ints_of_own{w:Wo}{B n k:Nat}{i:OA}{l:LN}(h:w.ownsRow B 3 1 (zL i n k) n ((nz l).map (Value.int .i64)))(m:l.length=n):IntsUp w B i (nz l):=fun hz=>by
 rw[qaA] at hz
 obtain⟨d,f,e,g⟩:=own_slice' h
 injection e with e1 e2 e3
 subst e1
 obtain⟨R,rfl⟩:=g U0
 have b:=World.ownsRow.lt h R rfl
 refine⟨R,0,rfl,b.1,b.2,fun j hj=>?_⟩
 rw[qaA] at hj
 rw[Nat.zero_add,World.ownsRow.cellAt h j U0]
 have c:j<(nz l).length:=by rw[qaA];exact hj
 simp[List.getD,c]
theorem elGo_piv_lt(O:Ops)(rows:LL):∀ c,∀ x∈(elGo O rows c).piv,x<c
 |0,x,hx=>by simp[elGo] at hx
 | c + 1,x,hx => by
   have ih:=elGo_piv_lt O rows c
   unfold elGo elStep at hx
   split at hx
   . split at hx
     . have:=ih x hx;omega
     . rcases List.mem_append.1 hx with h|h
       . have:=ih x h;omega
       . have : x = c:=by simpa using h
         omega
   . have:=ih x hx;omega
theorem canon2_c(gb Bg p m cols:Nat)(md l:LN)(rows:LL)(A:OA)(c:Nat)(w:Wo)(I:FT p m md l)(J:GFAt w Bg gb p m l (logL l (p^m)))(E:Bg<=w.heap.size)(H:zR w A (nzs rows))(D:Grid (p^m) rows.length cols rows)(M:1<=cols)(K:cols<=256)(L:rows.length<=256):
 zC 185 #[zP gb,zL A rows.length c,Y cols] w fun e w'=>(∃(R:Nat)(VA:OA)(ck:Nat),e=.returned (.tuple #[zS R (canonM (opsT p m l) rows cols).length (canonM (opsT p m l) rows cols).length,zL VA (canonM (opsT p m l) rows cols).length ck])/\RowsUp w' w.heap.size (zO R) (nzs (canonM (opsT p m l) rows cols))/\IntsUp w' w.heap.size VA (nz (elGo (opsT p m l) rows cols).piv))/\zB w w':=by
 have g:=zH (clone_c rows A c w H (fun r hr=>by have:=(D.2 r hr).1;omega) U0)
 have h:zK (∀(bs:List (Nat × Nat))(b:Wo),zB w b->GridAt b w.heap.size w.heap.size rows.length rows bs->zC 223 #[zP gb,zS w.heap.size rows.length rows.length,Y cols,zL none 0 0] b (ElPost b w.heap.size w.heap.size rows.length p m l rows cols)):=
  fun bs b hb hg=>eliminate_c w.heap.size w.heap.size rows.length gb Bg p m cols md l rows bs b I (J.keep (hb.mono E)) E hb.size hg D L K
 have n:=zH (canonM_len (opsT p m l) rows cols);have f:=zH (qeN (O:=opsT p m l) rows cols);have q:=zH (qfD (O:=opsT p m l) rows cols);have j:=zH (qfB (opsT p m l) rows cols);clear I J H D;generalize canonM (opsT p m l) rows cols=B at *;go_enter func185,ntmps185;go_wp2_with fail;go_fit g.o;rintro e b ⟨rfl,⟨bs,hg⟩,hb⟩;have y:=zH hg;have s:=zH hb;clear hg hb;go_wp2_with fail;(with_reducible refine(h.o bs b s.o y.o).mono ?_);rintro e C ⟨⟨vp,d,bs2,rfl,hown,hgrid⟩,hb2⟩;obtain⟨VA,ck,rfl⟩:=own_slice hown;have v:zK (IntsUp C w.heap.size VA (nz (elGo (opsT p m l) rows cols).piv)):=(ints_of_own hown rfl).lower (by have:=s.o.size;omega);have k:=zH hgrid;have t:=zH (s.o.trans hb2);clear hown hgrid hb2;have z:=zH<|k.o.rowsAt B (by rw[n.o,q.o];exact f.o.2) (fun i hi=>j.o i (by rw[<- n.o];exact hi))
 have x:=f.o.2;rw[<- n.o] at x;have u:=zH n.o.symm;clear n f q j g h k;rw[u.o];go_wp2;go_ret2;exact⟨⟨_,_,_,rfl,z.o,v.o⟩,t.o⟩
def kerK(O:Ops)(rows:LL)(piv:LN)(cols c:Nat):Nat->LN
 |0=>(List.replicate cols 0).set c 1
 |i+1=>(kerK O rows piv cols c i).set (piv.getD i 0) (O.neg ((rows.getD i []).getD c 0))
theorem kerK_len(O:Ops)(rows:LL)(piv:LN)(cols c:Nat):∀i,(kerK O rows piv cols c i).length=cols
 |0=>by simp[kerK]
 |i+1=>by simp[kerK,kerK_len O rows piv cols c i]
theorem kerK_lt{q n cols:Nat}{O:Ops}(E:OpsEq q O O)(f:1<q){rows:LL}(b:Grid q n cols rows){piv:LN}{c:Nat}(d:c<cols):∀ i,i<=n->∀ x∈kerK O rows piv cols c i,x<q
 |0,_,x,hx=>by
   unfold kerK at hx
   rcases List.mem_or_eq_of_mem_set hx with h|h
   . simp at h;omega
   . omega
 | i + 1,hi,x,hx => by
   unfold kerK at hx
   rcases List.mem_or_eq_of_mem_set hx with h|h
   . exact kerK_lt E f b d i U0 x h
   . rw [h]
     have hr:=b.row (i:=i) U0
     have:(rows.getD i []).getD c 0=(rows.getD i [])[c]'(by rw[hr.1];exact d):=by
      have:∀(l:LN)(hj:c<l.length),l.getD c 0=l[c]:=fun l hj=>by simp[List.getD,hj]
      exact this _ _
     rw[this]
     exact(E.neg _ (hr.2 _ (List.getElem_mem _))).2
def freeC(piv:LN)(c:Nat):LN:=(List.range c).filter fun x=>!decide (x∈piv)
def kerRows(O:Ops)(rows:LL)(piv:LN)(cols:Nat):LL:=(freeC piv cols).map fun c=>kerK O rows piv cols c piv.length
theorem freeC_succ(piv:LN)(c:Nat):freeC piv (c+1)=freeC piv c++if c∈piv then[] else[c]:=by unfold freeC;rw[List.range_succ,List.filter_append];by_cases h:c∈piv<;>simp[h]
theorem freeC_le(piv:LN)(c:Nat):(freeC piv c).length<=c:=by unfold freeC;have:=List.length_filter_le (fun x=>!decide (x∈piv)) (List.range c);simpa using this
theorem freeC_at(piv:LN):∀ (cols c:Nat),c<cols->c∉piv->(freeC piv c).length<(freeC piv cols).length/\(freeC piv cols).getD (freeC piv c).length 0=c
 |0,c,h,_=>by omega
 | n + 1,c,h,hp => by
   rw[freeC_succ]
   by_cases hcn:c=n
   . subst hcn
     rw[if_neg hp]
     exact⟨U2,by simp[List.getD]⟩
   . obtain⟨i1,i2⟩:=freeC_at piv n c U0 hp
     refine⟨by rw[List.length_append];omega,?_⟩
     rw[show(freeC piv n++if n∈piv then[] else[n]).getD (freeC piv c).length 0=(freeC piv n).getD (freeC piv c).length 0 by simp only[List.getD,List.getElem?_append_left i1]]
     exact i2
theorem kerRows_len(O:Ops)(rows:LL)(piv:LN)(cols:Nat):(kerRows O rows piv cols).length=(freeC piv cols).length:=by simp[kerRows]
theorem kerRows_at(O:Ops)(rows:LL)(piv:LN)(cols c:Nat)(f:c<cols)(g:c∉piv):(kerRows O rows piv cols).getD (freeC piv c).length []=kerK O rows piv cols c piv.length:=by
 obtain⟨b,d⟩:=freeC_at piv cols c f g;have e:(freeC piv cols)[(freeC piv c).length]?=some c:=by rw[List.getElem?_eq_getElem b];rw[List.getD,List.getElem?_eq_getElem b] at d;simpa using d
 simp[kerRows,List.getD,e]
theorem kerRows_grid{q n cols:Nat}{O:Ops}(E:OpsEq q O O)(f:1<q){rows:LL}{piv:LN}(g:Grid q n cols rows)(h:piv.length=n):Grid q (kerRows O rows piv cols).length cols (kerRows O rows piv cols):=by
 refine⟨rfl,fun r hr=>?_⟩;unfold kerRows at hr;obtain⟨c,d,rfl⟩:=List.mem_map.1 hr;have b:c<cols:=by have:=(List.mem_filter.1 d).1;simpa using this
 exact⟨kerK_len _ _ _ _ _ _,kerK_lt E f g b _ U0⟩
def kerM(O:Ops)(rows:LL)(cols:Nat):LL:=canonM O (kerRows O (canonM O rows cols) (elGo O rows cols).piv cols) cols
def RelKer(w2:Wo)(piv:LN)(cols:Nat)(kr:LL)(v10 v37:Value)(wr:Wo):Prop:=
 ∃(c:Nat)(bs:List (Nat × Nat)),c<=cols/\v37=Y c/\LGrid wr (w2.heap.size) v10 kr bs (freeC piv c).length/\zB w2 wr
def RelKi(w4:Wo)(O:Ops)(rows:LL)(piv:LN)(cols c:Nat)(v51:Value)(wr:Wo):Prop:=
 ∃i:Nat,i<=piv.length/\v51=Y i/\Row wr w4.heap.size w4.heap.size cols (nz (kerK O rows piv cols c i))/\zB w4 wr
theorem canon_grid{q n cols:Nat}{O:Ops}(E:OpsEq q O O){rows:LL}(g:Grid q n cols rows):Grid q (elGo O rows cols).piv.length cols (canonM O rows cols):=by
 have d:=(qdT E g cols zn).2;have f:=(qeN (O:=O) rows cols).2;refine⟨canonM_len O rows cols,fun r hr=>?_⟩;obtain⟨i,b,rfl⟩:=List.mem_iff_getElem.1 hr;have c:i<(elGo O rows cols).piv.length:=by rw[canonM_len] at b;exact b
 have e:(canonM O rows cols)[i]=(elGo O rows cols).rows.getD i []:=by rw[<- qfB O rows cols i c];simp[List.getD,b]
 rw[e];exact d.row (i:=i) (by rw[g.1] at f;omega)
end Go.Proofs.YtflejelbdlelpaaGreat
namespace Go.Proofs.YtflejelbdlelpaaGreat
section
variable {P:Program} {ops:Array Oper} {md:Region.Mode} {S:Wo->Prop} {Q:Exit->Act->Wo->Prop} {n g s m:Nat} {F:Fence}
structure NoBar (F:Fence):Prop where
 fn:∀f,F.fn f
 depth:F.depth=none
 fenced:∀(P:Program)(mm:Machine),Machine.fenced P F mm
theorem noBar_wide:NoBar Fence.wide:=⟨fun _=>trivial,rfl,fun P mm=>fenced_wide P mm⟩
theorem NoBar.inRound(h:NoBar F)(l:Nat):NoBar (F.inRound l):=⟨h.fn,h.depth,fun P mm=>h.fenced P mm⟩
theorem NoBar.steps(h:NoBar F){a b:Machine}(c:Steps P a b):StepsIn (Machine.fenced P F) P a b:=(StepsIn.of_steps c).mono fun mm _=>h.fenced P mm
theorem NoBar.calls(h:NoBar F){f:FuncId}{args:Array Value}{w:Wo}{R:Ending->Wo->Prop}(d:Calls P f args w R):CallsIn F m P f args w R :=
 ⟨h.fn f,fun cs _=>by
   obtain⟨e,w',b,r,s,x⟩:=((callsIn_wide (n:=0)).2 d).2 cs (room_wide _)
   refine⟨e,w',b,r,?_,x⟩
   cases e with
   |outgrown=>exact s
   |returned v=>exact StepsIn.mono (fun mm _=>h.fenced P mm) s
   |panicked c=>exact StepsIn.mono (fun mm _=>h.fenced P mm) s⟩
theorem NoBar.rows(h:NoBar F){row:String}{args:Array Value}{w:Wo}{R:Value->Wo->Prop}(b:Rows P row args w R):RowsIn F m P row args w R:=
 fun c cs _=>let ⟨v,w',r,s⟩:=b c cs;⟨v,w',r,h.steps s⟩
theorem NoBar.ask(h:NoBar F)(k:Nat):F.depth.isSome=true->1<=k:=fun hd=>by rw[h.depth] at hd;cases hd
def noDefer(ops:Array Oper):Bool:=ops.all fun o=>match o.op with|.defer _=>false|_=>true
theorem noDefer_at{i:Nat}{o:Oper}(h:noDefer ops=true)(f:ops[i]?=some o):∀c,o.op≠.defer c:=fun c hc=>by
 unfold noDefer at h
 rw[Array.all_eq_true] at h
 obtain⟨b,d⟩:=Array.getElem?_eq_some_iff.1 f
 have:=h i b
 rw[d,hc] at this
 cases this
theorem wpOpIn_of_wpOp{i:Nat}{K k:Act->Wo->Prop}{a:Act}{w:Wo}(j:NoBar F)(hd:noDefer ops=true)(d:∀ a w,K a w->k a w)(h:wpOp P ops (fun _ _ _=>False) i K a w):wpOpIn F m P ops Q i k a w:=by
 unfold wpOp at h;unfold wpOpIn;cases hi:ops[i]? with
 |none=>rw[hi] at h;exact d _ _ h
 | some o =>
  rw[hi] at h;simp only at h ⊢;by_cases b:Region.wanted o (yielded ops a.tmps)=true
  . rw [if_pos b] at h ⊢;rcases h with h|⟨_,_,_,h⟩
    . refine ⟨fun f _ => j.fn f,?_⟩;rw [Oper.semAt_eq _ _ _ (noDefer_at hd hi)];unfold Oper.wp at h;generalize (execOp a.eval o).run P w=r at *;cases r with
      |ok nx w'=>
       cases nx<;>simp only[Oper.upon,Oper.uponIn] at h ⊢;case value=>exact d _ _ h
       case skip=>exact d _ _ h
       case defer=>exact d _ _ h
       case enter f args=>
        refine⟨j.ask m,(j.calls h).mono fun e w'' he=>?_⟩;cases e with
        |returned v=>exact d _ _ he
        |panicked c=>exact he.elim
        |outgrown=>obtain⟨_,_,h⟩:=he;exact h.elim
       case row row args=>exact⟨j.ask m,(j.rows h).mono fun v w'' hv=>d _ _ hv⟩
      |halt x w'=>cases x<;>simp only[Oper.upon] at h
    . exact h.elim
  . rw[if_neg b] at h ⊢;exact⟨fun f _=>j.fn f,d _ _ h⟩
theorem wpAnyIn_of_HF(b:NoBar F)(hd:noDefer ops=true){L:Array Bool->Act->Wo->Prop}(c:∀ listed a w,L listed a w->wpAnyIn F m P md ops Q g listed a w):
 ∀(f:Nat)(listed:Array Bool)(a:Act)(w:Wo),wpAnyHF P md ops (fun _ _ _=>False) S n s L f listed a w->wpAnyIn F m P md ops Q (f+g) listed a w
 |0,listed,a,w,h=>by rw[Nat.zero_add];exact c _ _ _ h
 |f + 1,listed,a,w,h=>by
   rw[show f+1+g=(f+g)+1 by omega]
   exact⟨fun h0=>absurd h0 h.1,fun i hi=>wpOpIn_of_wpOp b hd (fun a' w' h'=>wpAnyIn_of_HF b hd c f _ a' w' h'.2) (h.2 i hi).2⟩
theorem qeE:∀ (l:List Oper)(k:Nat)(listed:Array Bool)(a:Act)(w:Wo),(∀ j,l[j]?=ops[k+j]?) ->
 Region.seqB md ops l.length k listed=true->wpListIn F m P ops Q l a w->wpAnyIn F m P md ops Q l.length listed a w
 |[],_,_,_,_,_,hB,h=>⟨by simpa[Region.seqB] using hB,h⟩
 |o :: l,k,listed,a,w,hl,hB,h=>by
   have h0:ops[k]?=some o:=by simpa using(hl 0).symm
   simp only[List.length_cons,Region.seqB,Bool.and_eq_true,decide_eq_true_eq] at hB
   refine⟨fun h1=>(by rw[hB.1] at h1;cases h1),fun i hi=>?_⟩
   rw[hB.1] at hi
   have b:i=k:=by simpa using hi
   subst b
   have c:wpOpIn F m P ops Q i (wpListIn F m P ops Q l) a w:=by unfold wpOpIn;simp only[h0];exact h
   exact wpOpIn_mono (fun a' w' h'=>qeE l (i+1) _ a' w' (fun j=>by have:=hl (j+1);simpa[Nat.add_assoc,Nat.add_comm 1 j] using this) hB.2 h') c
theorem qdK{z:Nat}{a:Act}{w:Wo}{l:List Oper}(n s:Nat)(S:Wo->Prop)(q:List (Nat × Nat))(d:Oper)(u:NoBar F)(y:P.follows .mixedOrders=true)(r:Region.mixFTailB .any l.toArray n s q=true)(hd:noDefer l.toArray=true)(v:S w.drew)(h:wpMixF P S (wpListIn F m P l.toArray Q (l.drop n)) (q.map fun x=>(x.1,l.getD x.2 d)) a w.drew):(Code.region z l.toArray true).wpIn F m P Q a w:=by
 simp only[Region.mixFTailB,Bool.and_eq_true,decide_eq_true_eq] at r;obtain⟨⟨⟨⟨⟨c,o⟩,p⟩,k⟩,i⟩,b⟩:=r
 have f:HeadInv .any l.toArray n (Array.replicate l.toArray.size false):=
  ⟨U2,fun j oj _ hl=>(by rw[getD_replicate_false] at hl;cases hl),fun t _ ht=>getD_in (by simpa using ht) (getD_replicate_false _ _)⟩
 have H:=qbP (P:=P) (Q:=fun _ _ _=>False) (md:=.any) (g:=l.toArray.size-n) rfl c p k o (fun _ _ _ _ _ h=>h.elim) q _ a w.drew f b (fun _=>v) h;refine wpIn_region_any y ?_
 have:=wpAnyIn_of_HF (F:=F) (m:=m) (Q:=Q) (g:=l.toArray.size-n) u hd (fun listed' a' w' hL=>by
  have:=qeE (F:=F) (m:=m) (P:=P) (md:=.any) (Q:=Q) (l.drop n) n listed' a' w' (fun j=>by simp[List.getElem?_drop]) (by simpa using hL.1) hL.2
  simpa using this) _ _ a w.drew H
 rw[i,show n+(l.toArray.size-n)=l.toArray.size by omega] at this;exact this
end
end Go.Proofs.YtflejelbdlelpaaGreat
namespace Go.Proofs.YtflejelbdlelpaaGreat
open Go.RowKit Pln
def Far(l bo Ba b:Nat):Prop:=b≠l/\b≠bo/\b≠Ba
def SameBut(l bo Ba:Nat)(W W':Wo):Prop:=W.heap.size<=W'.heap.size/\∀b,b<W.heap.size->Far l bo Ba b->W'.heap[b]?=W.heap[b]?
section
variable {l bo Ba:Nat} {W W' W'':Wo}
theorem SameBut.refl:SameBut l bo Ba W W:=⟨Nat.le_refl _,fun _ _ _=>rfl⟩
theorem SameBut.trans(h:SameBut l bo Ba W W')(c:SameBut l bo Ba W' W''):SameBut l bo Ba W W'':=
 ⟨Nat.le_trans h.1 c.1,fun b hb hf=>(c.2 b (Nat.lt_of_lt_of_le hb h.1) hf).trans (h.2 b hb hf)⟩
theorem SameBut.of_below(h:zB W W'):SameBut l bo Ba W W':=⟨h.size,fun b hb _=>h.block b hb⟩
theorem SameBut.drew:SameBut l bo Ba W W.drew:=⟨Nat.le_refl _,fun _ _ _=>rfl⟩
theorem SameBut.set(u:Value):SameBut l bo Ba W (W.setCell (zA Ba 0) u):=⟨U2,fun b _ hf=>Below.heap_setCell W (zA Ba 0) u b hf.2.2⟩
theorem SameBut.cell(h:SameBut l bo Ba W W'){p:Addr}(c:Far l bo Ba p.block){v:Value}(b:W.cell? p=some v):W'.cell? p=some v:=
 (World.cell?_of_block (h.2 p.block (World.block_lt_of_cell? W _ b) c)).trans b
theorem SameBut.range(h:SameBut l bo Ba W W'){b o:Nat}{cs:List Value}(d:Far l bo Ba b)(c:W.rangeAt b o cs):W'.rangeAt b o cs:=fun j v hv=>h.cell (p:=(zA b (o+j))) d (c j v hv)
theorem SameBut.ints(h:SameBut l bo Ba W W'){b o:Nat}{zs:LI}(m:Far l bo Ba b)(k:zI W (some (zA b o)) zs):zI W' (some (zA b o)) zs:=fun hz=>by
 obtain⟨g,i,c,d,f⟩:=k hz
 injection c with c
 injection c with e1 e2
 subst e1
 subst e2
 exact⟨b,o,rfl,Nat.lt_of_lt_of_le d h.1,fun j hjl=>h.cell (p:=(zA b (o+j))) m (f j hjl)⟩
end
def lT:LN:=genM (mulM 2 1 (mdOf 1 [])) (2^1)
def GFFar(l bo Ba gb:Nat)(W:Wo):Prop:=
 Far l bo Ba gb/\gb<W.heap.size/\∃(A3:OA)(n3 c3 ge ce gl cl:Nat),Far l bo Ba ge/\Far l bo Ba gl/\W.heap[gb]?=some (Ci 2 1 A3 n3 c3 ((2^1:Nat):Int) ge lT.length ce gl (logL lT (2^1)).length cl)/\
  zI W (zO ge) (nz lT)/\zI W (zO gl) (nz (logL lT (2^1)))
structure WkS (l bo Ba Bc By Bg Bf gb G:Nat) (lb:Array Value) (k:Nat) (W:Wo):Prop where
 fc:Far l bo Ba Bc
 code:W.rangeAt Bc 0 [Y 2,Y 1,zL none 0 0,Y 3,zS G 1 1]
 gen:Far l bo Ba G/\∃R ro cr,Far l bo Ba R/\W.cell? (zA G 0)=some (zL (some (zA R ro)) 3 cr)/\∀j,j<3->W.cell? (zA R (ro+j))=some (Y 1)
 cnt:W.heap[Ba]?=some (.cells #[Y (k:Int)] 3 (0,0))
 yld:Far l bo Ba By/\W.cell? (zA By 0)=some (.func (.yield l) #[] #[])
 gee:Far l bo Ba Bg/\W.cell? (zA Bg 0)=some (zP gb)
 frm:Far l bo Ba Bf/\W.cell? (zA Bf 0)=some (.func (.func 159) #[] lb)
 gf:GFFar l bo Ba gb W
def RndOk(l bo:Nat)(J:Nat->Wo->Prop)(k:Nat)(W:Wo)(e:Ending)(W':Wo):Prop:=e=.returned (.bool true)/\J (k+1) W'/\W.heap.size<=W'.heap.size/\∀b,b<W.heap.size->b≠l->b≠bo->W'.heap[b]?=W.heap[b]?
end Go.Proofs.YtflejelbdlelpaaGreat
namespace Go.Proofs.YtflejelbdlelpaaGreat
open Go.RowKit Pln Go.Proofs.Tryz
section
variable {P:Program}
theorem qeU{ops:Array Oper}{rest:List Oper}{o:Oper}{a:Act}{w w':Wo}{v c d:Value}{Q:Exit->Act->Wo->Prop}(b:o.guard=none)(s x:Operand)(t:TypeId)(f:o.op=.call { callee:=.builtin .append,args:=#[s,x],argTypes:=#[t,t] })(i:a.eval s=c)(j:a.eval x=d)(g:(Builtin.append_ #[t,t] o.type #[c,d]).run P w=.ok v w')(h:wpList P ops Q rest (a.put o.dst v) w'):wpList P ops Q (o :: rest) a w:=
 wpList_plain b fun K hK=>by
  unfold Oper.wp execOp
  simp only[f,resolve,invoke,builtin,Sem.run_bind,Sem.run_pure,Result.andThen_ok,List.map_toArray,List.map_cons,List.map_nil,i,j,g]
  exact hK _ _ h
end
def uz(l:LN):List Value:=l.map fun x:Nat=>.int .u32 (x:Int)
theorem uz_len(l:LN):(uz l).length=l.length:=by simp[uz]
theorem infoWord:(prog.info? 183).map (fun i=>(i.zero,i.size,i.bytes))=some (some (.int .u32 0),1,4):=U1
def OwnW(w:Wo)(B:Nat)(v:Value)(l:LN):Prop:=w.ownsRow B 183 1 v l.length (uz l)
def RowW(w:Wo)(B g c:Nat)(l:LN):Prop:=OwnW w B (zS g l.length c) l
section
variable {w w':Wo} {B g c:Nat} {l:LN} {v:Value}
theorem RowW.cell(h:RowW w B g c l){j:Nat}(b:j<l.length):w.cell? (zA g j)=some (.int .u32 ((l.getD j 0:Nat):Int)):=by rw[World.ownsRow.cellAt h j U0];simp[uz,List.getD,b]
theorem RowW.frozen(h:RowW w B g c l)(j:Nat):w.frozen? (zA g j)=false:=World.ownsRow.frozenAt h j
theorem RowW.lt(h:RowW w B g c l):B<=g/\g<w.heap.size:=World.ownsRow.lt h g rfl
theorem RowW.set(h:RowW w B g c l)(j x:Nat):RowW (w.setCell (zA g j) (.int .u32 (x:Int))) B g c (l.set j x):=by have:=(World.ownsRow.stored h j (.int .u32 (x:Int))).1;unfold RowW OwnW uz;rw[List.length_set,List.map_set];exact this
theorem RowW.of_make{n:Nat}(h:w.ownsRow B 183 1 (zS g n c) n (madeCells (Value.int .u32 0).cells (n*1)).toList):RowW w B g c (List.replicate n 0):=by
 unfold RowW OwnW;have e:(madeCells (Value.int .u32 0).cells (n*1)).toList=uz (List.replicate n 0):=by
  apply List.ext_getElem
  . simp[madeCells,uz]
  . intro i b d;simp[madeCells,uz,Value.cells,Nat.mod_one]
 rw[List.length_replicate,<- e];exact h
theorem RowW.words(h:RowW w B g c l):WordsAt w w.heap.size (zO g) l:=fun _=>
 ⟨g,0,rfl,h.lt.2,fun j hj=>by rw[Nat.zero_add];exact h.cell hj⟩
theorem RowW.cap(h:RowW w B g c l):l.length<=c:=by
 rcases h.2 with⟨d,_⟩|⟨i,cap,cur,b,_,_,f,_⟩
 . cases d
 . simp only[Value.slice.injEq] at b;rw[b.2.2];exact f
end
theorem WordsAt.news{w:Wo}{B b o:Nat}{l:LN}(h:WordsAt w B (some (zA b o)) l):∀(j:Nat)(u:Value),(uz l)[j]?=some u->w.cell? ((⟨b,o,none⟩:Addr).add j)=some u:=by
 intro j u g;have f:j<l.length:=by simpa[uz] using(List.getElem?_eq_some_iff.1 g).1
 obtain⟨k,m,d,_,i⟩:=h U0;injection d with d;injection d with e1 e2;subst e1;subst e2;have c:(⟨b,o,none⟩:Addr).add j=(zA b (o+j)):=by unfold Addr.add;split<;>simp_all
 rw[c,i j f,<- g];simp[uz,List.getD,f]
theorem append_wnil{w:Wo}{A:OA}{l:LN}(c:Nat)(q:WordsAt w w.heap.size A l)(r:l.length<=1000000):
 ∃v w',(Builtin.append_ #[138,138] 138 #[zL none 0 0,zL A l.length c]).run prog w=.ok v w'/\OwnW w' w.heap.size v l/\zB w w':=by
 obtain⟨m,j,g,h,i⟩:=qaF infoWord;rcases Nat.eq_zero_or_pos l.length with h0|h0
 . have e:=List.length_eq_zero_iff.1 h0;subst e;exact⟨_,w,qfH w w.heap.size _ _ 183 m 1 underlying138 j (zL none 0 0) 0 [] (World.ownsRow_nil _ _ _ _) A c,World.ownsRow_nil _ _ _ _,Below.refl _ _⟩
 . obtain ⟨b,o,rfl,_,_⟩ := q h0
   obtain⟨p,w',f,d,n,_,_⟩:=run_append_own_at (P:=prog) (w:=w) w.heap.size 138 138 183 m _ 1 4 underlying138 j g h i rfl dc (zL none 0 0) 0 [] (World.ownsRow_nil _ _ _ _) (zA b o) l.length c (uz l) (by rw[uz_len,Nat.mul_one]) q.news
    (fun u hu=>by obtain⟨z,_,rfl⟩:=List.mem_map.1 hu;rfl) ml U0 zn
   refine⟨p,w',f,?_,zV.grown n zn (fun k hk=>by simp[Value.ownBlock] at hk)⟩;rw[Nat.zero_add,List.nil_append] at d;exact d
theorem trim_c(A:OA)(l:LN)(c:Nat)(w:Wo)(n:WordsAt w w.heap.size A l)(p:l.length<=1000000)(q:l.length<=c):
 zC 160 #[zL A l.length c] w fun e w'=>∃v,e=.returned v/\OwnW w' w.heap.size v (trm l)/\zB w w':=by
 have m:=zH (short_c A l c w n p q);have g:(trm l).length<=1000000:=by rw[trm_len];exact Nat.le_trans (tlen_le _ _) p
 obtain⟨v,h,d,b,f⟩:=append_wnil (trm l).length (n.take (tlen l l.length)) g;have j:zK (OwnW h w.heap.size v (trm l)):=b;have i:=zH f;have k:zK ((Builtin.append_ #[138,138] 138 #[zL none 0 0,zL A (trm l).length (trm l).length]).run prog w=.ok v h):=d;clear n b f g d;go_enter func160,ntmps160;go_wp2_with fail;refine m.o.mono ?_;rintro e w' ⟨rfl,rfl⟩;go_wp2_with (at_builtin;refine qeU rfl _ (.tmp 4) 138 rfl rfl rfl k.o ?_);go_ret;exact⟨_,rfl,j.o,i.o⟩
def WordsUp(w:Wo)(lo:Nat)(A:OA)(l:LN):Prop:=
 0<l.length->∃b o,A=some (zA b o)/\lo<=b/\b<w.heap.size/\∀j,j<l.length->w.cell? (zA b (o+j))=some (.int .u32 ((l.getD j 0:Nat):Int))
def NatV(w:Wo)(lo:Nat)(v:Value)(N:Nat):Prop:=∃A l c,v=zL A l.length c/\l.length<=c/\Cn l/\val BB l=N/\WordsUp w lo A l
def NatR(N:Nat)(w:Wo)(e:Ending)(w':Wo):Prop:=∃v,e=.returned v/\NatV w' w.heap.size v N/\zB w w'
section
variable {w w':Wo} {lo lo' B N:Nat} {A:OA} {l:LN} {v:Value}
theorem WordsUp.words(h:WordsUp w lo A l):WordsAt w w.heap.size A l:=fun hz=>by
 obtain⟨b,o,e,_,c,d⟩:=h hz
 exact⟨b,o,e,c,d⟩
theorem WordsUp.of_blocks(h:WordsUp w lo A l)(i:w.heap.size<=w'.heap.size)(g:∀k,lo<=k->k<w.heap.size->w'.heap[k]?=w.heap[k]?):WordsUp w' lo A l:=fun hz=>by
 obtain⟨b,o,e,c,d,f⟩:=h hz
 refine⟨b,o,e,c,U0,fun j hj=>?_⟩
 have:w'.cell? (zA b (o+j))=w.cell? (zA b (o+j)):=by
  unfold World.cell?
  rw[g b c d]
 exact this.trans (f j hj)
theorem NatV.of_blocks(h:NatV w lo v N)(j:w.heap.size<=w'.heap.size)(i:∀k,lo<=k->k<w.heap.size->w'.heap[k]?=w.heap[k]?):NatV w' lo v N:=by obtain⟨A,l,c,e,b,d,f,g⟩:=h;exact⟨A,l,c,e,b,d,f,g.of_blocks j i⟩
theorem NatV.grow(h:NatV w lo v N)(b:zB w w'):NatV w' lo v N:=h.of_blocks b.size fun k _ hk=>b.block k hk
theorem NatV.low(h:NatV w lo v N)(k:lo'<=lo):NatV w lo' v N:=by obtain⟨A,l,c,e,d,f,g,i⟩:=h;refine⟨A,l,c,e,d,f,g,fun hz=>?_⟩;obtain⟨b,o,e,j,r⟩:=i hz;exact⟨b,o,e,U0,r⟩
theorem NatV.zero(w:Wo)(lo:Nat):NatV w lo (zL none 0 0) 0:=⟨none,[],0,rfl,Nat.le_refl _,⟨U2,U2⟩,rfl,fun h=>by simp at h⟩
theorem OwnW.nat{d:LN}(h:OwnW w B v (trm d))(hd:∀x∈d,x<BB):NatV w B v (val BB d):=by
 rcases h.2 with⟨c,f⟩|⟨g,cap,cur,l,i,m,k,_⟩
 . have e:=List.length_eq_zero_iff.1 f;have:=trm_val BB d;rw[e] at this;rw[c,<- this];exact NatV.zero w B
 . subst l;have b:RowW w B g cap (trm d):=h;exact⟨_,trm d,cap,rfl,k,trm_cn hd,trm_val BB d,fun _=>⟨g,0,rfl,i,b.lt.2,fun j hj=>by rw[Nat.zero_add];exact b.cell hj⟩⟩
theorem RowW.nat{g c:Nat}{d:LN}(h:RowW w B g c d)(hd:∀x∈d,x<BB):NatV w B (zS g (trm d).length (trm d).length) (val BB d):=by refine⟨_,trm d,_,rfl,Nat.le_refl _,trm_cn hd,trm_val BB d,fun _=>⟨g,0,rfl,h.lt.1,h.lt.2,fun j hj=>?_⟩⟩;rw[trm_len] at hj;have:=tlen_le d d.length;rw[Nat.zero_add,h.cell U0];unfold trm;rw[take_getD hj]
end
theorem two_words{w:Wo}{c d:Nat}:WordsAt (w.alloc (.cells #[.int .u32 (c:Int),.int .u32 (d:Int)] 183)) (w.alloc (.cells #[.int .u32 (c:Int),.int .u32 (d:Int)] 183)).heap.size (zO w.heap.size) [c,d]:=fun _=>⟨w.heap.size,0,rfl,U2,fun j hj=>by
 have b:(w.alloc (.cells #[.int .u32 (c:Int),.int .u32 (d:Int)] 183)).heap[w.heap.size]?=some (.cells #[.int .u32 (c:Int),.int .u32 (d:Int)] 183 (0,0)):=heap_alloc_new _ _
 match j,hj with
 |0,_=>exact cell_of_row _ _ 0 _ _ _ b
 |1,_=>exact cell_of_row _ _ 1 _ _ _ b⟩
theorem natOf_c(n:Nat)(w:Wo)(p:n<BB*BB):zC 113 #[.int .u64 (n:Int)] w (NatR n w):=by
 obtain⟨b,h⟩:∃b,b=n % BB:=⟨_,rfl⟩;obtain⟨c,i⟩:∃c,c=n / BB:=⟨_,rfl⟩;unfold BB at p h i;have g:zK (val BB [b,c]=n/\∀x∈[b,c],x<BB):=by
  refine⟨?_,fun x hx=>?_⟩
  . show b+BB*(c+BB*0)=n;unfold BB;omega
  . simp only[List.mem_cons,List.not_mem_nil,or_false] at hx;unfold BB;omega
 have k:=zH (trim_c (zO w.heap.size) [b,c] 2 _ (two_words (w:=w)) U2 U2);have d:zK (zB w (w.alloc (.cells #[.int .u32 (b:Int),.int .u32 (c:Int)] 183))):=zV.alloc zn _;have l:IntKind.u32.wrap (n:Int)=b:=by rw[IntKind.wrap_u32];omega
 have m:(n:Int) / 4294967296 % 4294967296=c:=U0;clear h i p;go_enter func113,ntmps113;go_wp2_with fail;refine k.o.mono ?_;rintro e w' ⟨v,rfl,ho,hb⟩;have j:=zH ho;have f:zK (zB w w'):=d.o.trans (hb.mono d.o.size);clear ho hb;go_wp2;go_ret;refine⟨_,rfl,?_,f.o⟩;rw[<- g.o.1];exact(j.o.nat g.o.2).low d.o.size
theorem qfC(p:Nat)(l:LN)(n:Nat):val p (l.take (n+1))=val p (l.take n)+p^n*l.getD n 0:=by
 by_cases b:n<l.length
 . exact qfP p b
 . (have e:l.getD n 0=0:=by simp[List.getD,show l.length<=n by omega]);rw[e,List.take_of_length_le U0,List.take_of_length_le U0];omega
theorem set_getD{l:LN}{n x:Nat}(b:n<l.length):(l.set n x).getD n 0=x:=by simp[List.getD,b]
theorem take_set_self(l:LN)(n x:Nat):(l.set n x).take n=l.take n:=by rw[List.take_set];exact List.set_eq_of_length_le (by rw[List.length_take];omega)
theorem set_val(p:Nat){l:LN}{n x:Nat}(b:n<l.length):val p ((l.set n x).take (n+1))=val p (l.take n)+p^n*x:=by rw[qfC,take_set_self,set_getD b]
theorem set_lt{l:LN}{n x q:Nat}(h:∀ d∈l,d<q)(b:x<q):∀ d∈l.set n x,d<q:=fun d hd=>by
 rcases List.mem_or_eq_of_mem_set hd with h1|h1
 . exact h d h1
 . rw[h1]
   exact b
theorem qfJ{l:LN}{q:Nat}(h:∀d∈l,d<q)(c:0<q)(j:Nat):l.getD j 0<q:=by
 by_cases b:j<l.length
 . (have:l.getD j 0=l[j]:=by simp[List.getD,b]);rw[this];exact h _ (List.getElem_mem b)
 . (have:l.getD j 0=0:=by simp[List.getD,show l.length<=j by omega]);omega
theorem rep_lt(n:Nat):∀d∈List.replicate n 0,d<BB:=fun d hd=>by
 rw[(List.mem_replicate.1 hd).2]
 decide
def RelPl(w:Wo)(a b:LN)(k:Nat)(v6:Value)(L:LN)(wr:Wo):Prop:=
 ∃cy:Nat,cy<=1/\v6=.int .u64 (cy:Int)/\L.length=a.length+1/\(∀d∈L,d<BB)/\RowW wr w.heap.size w.heap.size (a.length+1) L/\zB w wr/\val BB (L.take k)+BB^k*cy=val BB (a.take k)+val BB (b.take k)
theorem plus_step{k s d:Nat}{a b L:LN}(f:k<L.length)(h:val BB (L.take k)+BB^k*d=val BB (a.take k)+val BB (b.take k))(g:s=a.getD k 0+d+b.getD k 0):val BB ((L.set k (s % BB)).take (k+1))+BB^(k+1)*(s / BB)=val BB (a.take (k+1))+val BB (b.take (k+1)):=by
 rw[set_val BB f,qfC BB a k,qfC BB b k,Nat.pow_succ,Nat.mul_assoc];have e:BB^k*s=BB^k*(s % BB)+BB^k*(BB*(s / BB)):=by rw[<- Nat.mul_add,Nat.mod_add_div]
 have c:BB^k*s=BB^k*a.getD k 0+BB^k*d+BB^k*b.getD k 0:=by rw[g,Nat.mul_add,Nat.mul_add]
 omega
theorem plus_c(A1 A2:OA)(l1 l2:LN)(c1 c2:Nat)(w:Wo)(h1:WordsAt w w.heap.size A1 l1)(h2:WordsAt w w.heap.size A2 l2)(d1:∀ d∈l1,d<BB)(d2:∀ d∈l2,d<BB)(n1:l1.length<=100000)(n2:l2.length<=100000):
 zC 204 #[zL A1 l1.length c1,zL A2 l2.length c2] w (NatR (val BB l1+val BB l2) w):=by
 obtain⟨i0,hi,M,i,m⟩:=qaF infoWord;have HI:=zH hi;have ad:=zH M;have ae:=zH i;have af:=zH m;have U:=zH h1;have V:=zH h2;have S:=zH d1;have T:=zH d2;obtain⟨N,P⟩:∃N,zK (N=val BB l1+val BB l2):=⟨_,rfl⟩;rw[<- P.o];clear hi M i m h1 h2 d1 d2;go_enter func204,ntmps204;go_upto_if 13 with fail;go_cut [0,1] (fun v0 v1 wx=>∃(A B:OA)(a b:LN)(ca cb:Nat),v0=zL A a.length ca/\v1=zL B b.length cb/\wx=w/\b.length<=a.length/\a.length<=100000/\N=val BB a+val BB b/\(∀d∈a,d<BB)/\(∀d∈b,d<BB)/\WordsAt w w.heap.size A a/\WordsAt w w.heap.size B b);case first=>
  by_cases I:l1.length<l2.length
  . (have J:(l1.length:Int)<(l2.length:Int):=by omega);go_wp2;go_meet;exact⟨A2,A1,l2,l1,c2,c1,rfl,rfl,rfl,U0,n2,by rw[P.o,Nat.add_comm],T.out,S.out,V.out,U.out⟩
  . (have J:¬(l1.length:Int)<(l2.length:Int):=by omega);go_wp2;go_meet;exact⟨A1,A2,l1,l2,c1,c2,rfl,rfl,rfl,U0,n1,P.o,S.out,T.out,U.out,V.out⟩
 case rest =>
  obtain⟨A,B,a,b,ca,cb,rfl,rfl,rfl,ag,hn,hN,da,db,hA,hB⟩:=hcut;have ab:=zH hN;have HA:=zH hA;have HB:=zH hB;have DA:=zH da;have DB:=zH db;have W:=zH (show i0.bytes*(a.length+1)<=281474976710656 by rw[af.o];omega);have X:=zH (show a.length+1<=maxLen by unfold maxLen;omega);clear hN hA hB da db U V S T P n1 n2;go_wp2_with (refine wpList_make_full wc rfl (.tmp 18) (.tmp 18) 138 rfl wc.heap.size 183 i0 (.int .u32 0) 1 underlying138 HI.o ad.o ae.o .i64 .i64 (a.length+1) (a.length+1) (a.length+1) rfl rfl rfl rfl W.o X.o zn ?_;intro w1 r H);have HR:zK (RelPl wc a b 0 (.int .u64 0) (List.replicate (a.length+1) 0) w1):=⟨0,U0,rfl,U2,rep_lt _,RowW.of_make r,qaL H,rfl⟩;clear r H;go_loopw [6,22] (fun v6 v22 wr=>∃(k:Nat)(L:LN),k<=a.length/\v22=Y (k:Int)/\RelPl wc a b k v6 L wr) (fun _ v22 _=>a.length-(intOf v22).toNat);case atStart=>exact⟨0,_,U0,rfl,HR.o⟩
  case round =>
   obtain⟨k,L,hk,rfl,g,aj,rfl,hL,hd,c,hb,hv⟩:=hrel;have C:=zH hL;have O:=zH hd;have Q:=zH c;have h:=zH hb;have HV:=zH hv;have fr:=c.frozen k;have fk:=c.frozen a.length;have yr:=c.cell (j:=k) U0;have yk:=c.cell (j:=a.length) U0;clear hL hd c hb hv HR;by_cases I:k<a.length
   . obtain ⟨ba,oa,rfl,ak,ya⟩ := (HA.o.keep h.o).at_ (k := k) I;have i:=qfJ DA.out dc k;have m:=qfJ DB.out dc k;have f:∀ s,s=a.getD k 0+g+b.getD k 0->val BB ((L.set k (s % BB)).take (k+1))+BB ^ (k+1)*(s / BB)=val BB (a.take (k+1))+val BB (b.take (k+1)):=fun s hs=>plus_step (by rw [C.o];omega) HV.o hs;by_cases K:k<b.length
     . obtain⟨bb,ob,rfl,al,yb⟩:=(HB.o.keep h.o).at_ (k:=k) K;generalize L.getD k 0=zr at *;generalize L.getD a.length 0=zk at *;generalize a.getD k 0=q at *;generalize b.getD k 0=R at *;unfold BB at i m;obtain⟨x,t⟩:∃x,x=(q+g+R) % BB:=⟨_,rfl⟩;obtain⟨y,v⟩:∃y,y=(q+g+R) / BB:=⟨_,rfl⟩;have f:=zH (f _ rfl);rw[<- t,<- v] at f;unfold BB at t v;(have ex:IntKind.u32.wrap ((q:Int)+(g:Int)+(R:Int))=(x:Int):=by rw[IntKind.wrap_u32];omega);have ey:((q:Int)+(g:Int)+(R:Int)) / 4294967296=(y:Int):=U0;have z:y<=1:=U0;(have u:x<BB:=by unfold BB;omega);clear t v;go_wp2;go_roundw;case rel=>exact⟨k+1,L.set k x,U0,U3,y,z,rfl,by rw[List.length_set,C.o],set_lt O.o u,Q.o.set k x,h.o.setCell zn _,f.o⟩
       case measure=>simp[intOf];omega
     . (have e2 : b.getD k 0 = 0:=by simp[List.getD,show b.length<=k by omega]);rw[e2] at f;have ai:¬(k:Int)<(b.length:Int):=U0;generalize L.getD k 0=zr at *;generalize L.getD a.length 0=zk at *;generalize a.getD k 0=q at *;unfold BB at i;obtain⟨x,t⟩:∃x,x=(q+g+0) % BB:=⟨_,rfl⟩;obtain⟨y,v⟩:∃y,y=(q+g+0) / BB:=⟨_,rfl⟩;have f:=zH (f _ rfl);rw[<- t,<- v] at f;unfold BB at t v;(have ex:IntKind.u32.wrap ((q:Int)+(g:Int))=(x:Int):=by rw[IntKind.wrap_u32];omega);have ey:((q:Int)+(g:Int)) / 4294967296=(y:Int):=U0;have z:y<=1:=U0;(have u:x<BB:=by unfold BB;omega);clear t v m e2;go_wp2;go_roundw;case rel=>exact⟨k+1,L.set k x,U0,U3,y,z,rfl,by rw[List.length_set,C.o],set_lt O.o u,Q.o.set k x,h.o.setCell zn _,f.o⟩
       case measure=>simp[intOf];omega
   . (obtain rfl:k=a.length:=by omega);generalize L.getD a.length 0=zk at *;have ex:IntKind.u32.wrap (g:Int)=(g:Int):=IntWalk.u32_in _ U0;(have ah:g<BB:=by unfold BB;omega);(have p:zK ((L.set a.length g).length=a.length+1):=by show _=_;rw[List.length_set,C.o]);have aa:=zH (set_lt O.o ah (n:=a.length));have E:=zH (Q.o.set a.length g);have Z:zK (zB wc (wr.setCell (zA wc.heap.size a.length) (.int .u32 (g:Int)))):=h.o.setCell zn _;(have ac:zK (val BB (L.set a.length g)=N):=by show _=_;have h1:=set_val BB (l:=L) (n:=a.length) (x:=g) (by rw[C.o];omega);rw[<- p.o,List.take_length,HV.o,List.take_length,List.take_of_length_le ag] at h1;rw[h1,ab.o]);have D:=zH (short_c (zO wc.heap.size) (L.set a.length g) (a.length+1) _ E.o.words (by rw[p.o];omega) (by rw[p.o];exact Nat.le_refl _));rw[p.o] at D;clear C O Q h HV yr fr;go_wp2_with fail;refine D.o.mono ?_;rintro e w' ⟨rfl,rfl⟩;go_wp2;go_ret;refine⟨_,rfl,?_,Z.o⟩;rw[<- ac.o];exact E.o.nat aa.o
end Go.Proofs.YtflejelbdlelpaaGreat
