/- Parts of the proof. -/
import Derived.Test.YtkcdlealipfnbaaGreatR12
set_option maxRecDepth 100000
set_option maxHeartbeats 8000000
namespace Go.Proofs.YtkcdlealipfnbaaGreat
open Pln
namespace Al
structure Fld (q:Nat) (O:Ops):Prop where
 q1:1<q
 addL:∀x y,x<q->y<q->O.add x y<q
 mulL:∀x y,x<q->y<q->O.mul x y<q
 negL:∀x,x<q->O.neg x<q
 invL:∀x,x<q->x≠0->O.inv x<q
 addC:∀x y,x<q->y<q->O.add x y=O.add y x
 addA:∀x y z,x<q->y<q->z<q->O.add (O.add x y) z=O.add x (O.add y z)
 addZ:∀x,x<q->O.add 0 x=x
 addN:∀x,x<q->O.add x (O.neg x)=0
 mulC:∀x y,x<q->y<q->O.mul x y=O.mul y x
 mulA:∀x y z,x<q->y<q->z<q->O.mul (O.mul x y) z=O.mul x (O.mul y z)
 mulU:∀x,x<q->O.mul 1 x=x
 mulZ:∀x,x<q->O.mul 0 x=0
 dist:∀x y z,x<q->y<q->z<q->O.mul x (O.add y z)=O.add (O.mul x y) (O.mul x z)
 inv:∀x,x<q->x≠0->O.mul x (O.inv x)=1
theorem addD_s(p k x y:Nat):addD p (k+1) x y=(x % p+y % p) % p+p*addD p k (x / p) (y / p):=rfl
theorem negD_s(p k x:Nat):negD p (k+1) x=(p-x % p) % p+p*negD p k (x / p):=rfl
theorem addD_mod{p:Nat}(_:0<p)(k x y:Nat):addD p (k+1) x y % p=(x+y) % p:=by rw[addD_s,Nat.add_mul_mod_self_left,Nat.mod_mod,<- Nat.add_mod]
theorem addD_div{p:Nat}(b:0<p)(k x y:Nat):addD p (k+1) x y / p=addD p k (x / p) (y / p):=by rw[addD_s,Nat.add_mul_div_left _ _ b,Nat.div_eq_of_lt (Nat.mod_lt _ b),Nat.zero_add]
theorem addD_comm(p:Nat):∀ k x y,addD p k x y=addD p k y x
 |0,_,_=>rfl
 |k + 1,x,y=>by
   rw[addD_s,addD_s,addD_comm p k,Nat.add_comm (x % p)]
theorem addD_assoc{p:Nat}(b:0<p):∀ k x y z,addD p k (addD p k x y) z=addD p k x (addD p k y z)
 |0,_,_,_=>rfl
 |k + 1,x,y,z=>by
   show(addD p (k+1) x y % p+z % p) % p+p*addD p k (addD p (k+1) x y / p) (z / p)=(x % p+addD p (k+1) y z % p) % p+p*addD p k (x / p) (addD p (k+1) y z / p)
   rw[addD_mod b,addD_div b,addD_mod b,addD_div b,addD_assoc b k,<- Nat.add_mod,<- Nat.add_mod,Nat.add_assoc]
theorem addD_id{p:Nat}(b:0<p):∀ k x,x<p ^ k->addD p k 0 x=x
 |0,x,h=>by
   simp at h
   subst h
   rfl
 |k + 1,x,h=>by
   have h1:x / p<p^k:=by rw[Nat.div_lt_iff_lt_mul b];rwa [Nat.pow_succ] at h
   rw[addD_s,Nat.zero_mod,Nat.zero_add,Nat.mod_mod,Nat.zero_div,addD_id b k _ h1]
   exact Nat.mod_add_div x p
theorem addD_neg{p:Nat}(f:0<p):∀ k x,addD p k x (negD p k x)=0
 |0,_=>rfl
 | k + 1,x => by
   have h1:negD p (k+1) x % p=(p-x % p) % p:=by
    rw[negD_s,Nat.add_mul_mod_self_left,Nat.mod_mod]
   have b:negD p (k+1) x / p=negD p k (x / p):=by
    rw[negD_s,Nat.add_mul_div_left _ _ f,Nat.div_eq_of_lt (Nat.mod_lt _ f),Nat.zero_add]
   have d:x % p<p:=Nat.mod_lt _ f
   show(x % p+negD p (k+1) x % p) % p+p*addD p k (x / p) (negD p (k+1) x / p)=0
   rw[h1,b,addD_neg f k]
   have c:(x % p+(p-x % p) % p) % p=0:=by
    rw[Nat.add_mod_mod,show x % p+(p-x % p)=p by omega,Nat.mod_self]
   rw[c]
   rfl
def zw(p:Nat)(a b:LN):LN:=List.zipWith (fun x y=>(x+y) % p) a b
theorem zw_dig{p m:Nat}(h:0<p){a b:LN}(f:a.length=m)(g:b.length=m):Dig p m (zw p a b):=by refine⟨by simp[zw,f,g],fun d hd=>?_⟩;unfold zw at hd;obtain⟨i,c,rfl⟩:=List.mem_iff_getElem.1 hd;rw[List.getElem_zipWith];exact Nat.mod_lt _ h
theorem zw_F{p m:Nat}{a b:LN}(d:a.length=m)(f:b.length=m):Cg p (F (zw p a b)) (fun j=>1*F a j+F b j):=by
 refine Cg.mk fun j=>?_;unfold F zw;by_cases c:j<m
 . (have e:(List.zipWith (fun x y=>(x+y) % p) a b).getD j 0=(a.getD j 0+b.getD j 0) % p:=by simp[List.getD,List.getElem?_zipWith,List.getElem?_eq_getElem (show j<a.length by omega),List.getElem?_eq_getElem (show j<b.length by omega)]);rw[e];simp
 . rw[qaZ so,qaZ U0,qaZ U0];simp
theorem mulL_dist{p m:Nat}(j:0<p)(md a b c:LN)(k:a.length=m)(l:b.length=m)(n:c.length=m):Pln.mulL p m md a (zw p b c)=zw p (Pln.mulL p m md a b) (Pln.mulL p m md a c):=by have d:=qaW (m:=m) j md a b;have f:=qaW (m:=m) j md a c;have g:=qaW (m:=m) j md a (zw p b c);have i:=zw_dig j l n;have h:=zw_dig j d.1 f.1;refine F_inj (g.1.trans h.1.symm) g.2 h.2 ?_;refine(qbJ j md a _ k i.1).trans (Cg.trans ?_ (zw_F d.1 f.1).symm);refine(mz_cg (Cg.refl _ _) (zw_F l n)).trans (Cg.trans (Cg.of_eq ?_) (Cg.lin 1 (qbJ j md a b k l).symm (qbJ j md a c k n).symm));unfold mz;exact qdZ m (F md) 1 (F b) (F c) (F a) m
theorem digs_add{p:Nat}(b:0<p)(m x y:Nat):digs p m (addD p m x y)=zw p (digs p m x) (digs p m y):=by have h:=zw_dig b (qaK p m x) (qaK p m y);rw[addD_val];have:=qcR b _ h.2;rw[h.1] at this;exact this
theorem val_zw{p:Nat}(h:0<p){m:Nat}{a b:LN}(f:Dig p m a)(g:Dig p m b):val p (zw p a b)=addD p m (val p a) (val p b):=by have c:=qcR h _ f.2;have d:=qcR h _ g.2;rw[f.1] at c;rw[g.1] at d;rw[addD_val,c,d];rfl
theorem mulM_dist{p m:Nat}(b:0<p)(md:LN)(x y z:Nat):mulM p m md x (addD p m y z)=addD p m (mulM p m md x y) (mulM p m md x z):=by unfold mulM;rw[digs_add b,mulL_dist b md _ _ _ (qaK p m x) (qaK p m y) (qaK p m z)];exact val_zw b (qaW b md _ _) (qaW b md _ _)
theorem fld_of{p m:Nat}{md l:LN}(h:FT p m md l):Fld (p^m) (opsT p m l):=by
 have d:0<p:=by have:=h.small.p1;omega
 have H:=qaV (p:=p) (m:=m) (by have:=h.small.p1;omega) h.small.m1 md;have E:∀x y,x<p^m->y<p^m->(opsT p m l).mul x y=mulM p m md x y:=fun x y b c=>h.tab.mul_eq H b c;have M:∀x y,x<p^m->y<p^m->(opsT p m l).mul x y<p^m:=fun x y b c=>mulT_lt h b c;have A:∀x y,(opsT p m l).add x y<p^m:=fun x y=>qdR d m x y;refine⟨H.q1,fun x y _ _=>A x y,M,fun x _=>qdP d m x,fun x b g=>(h.tab.inv H g b).2.1,fun x y _ _=>addD_comm p m x y,fun x y z _ _ _=>addD_assoc d m x y z,fun x b=>addD_id d m x b,fun x _=>addD_neg d m x,?_,?_,?_,?_,?_,?_⟩
 . intro x y b c;rw[E x y b c,E y x c b];exact H.comm x y
 . intro x y z b c f;rw[E _ z (M x y b c) f,E x y b c,E x _ b (M y z c f),E y z c f];exact H.assoc x y z
 . intro x b;rw[E 1 x H.q1 b];exact H.one x b
 . intro x b;rw[E 0 x (by have:=H.q1;omega) b];exact H.zero x
 . intro x y z b c f;rw[E x _ b (A y z),E x y b c,E x z b f];exact mulM_dist d md x y z
 . intro x b g;exact(E x _ b (h.tab.inv H g b).2.1).trans (h.tab.inv H g b).1
end Al
end Go.Proofs.YtkcdlealipfnbaaGreat
namespace Go.Proofs.YtkcdlealipfnbaaGreat
namespace Al
structure Fd (K:Type) [Add K] [Mul K] [Neg K] [Zero K] [One K]:Prop where
 addC:∀x y:K,x+y=y+x
 addA:∀x y z:K,x+y+z=x+(y+z)
 addZ:∀x:K,0+x=x
 addN:∀x:K,x+-x=0
 mulC:∀x y:K,x*y=y*x
 mulA:∀x y z:K,x*y*z=x*(y*z)
 mulU:∀x:K,1*x=x
 dist:∀x y z:K,x*(y+z)=x*y+x*z
 inv:∀x:K,x≠0->∃y:K,x*y=1
 ne:(1:K)≠0
section
variable {K:Type} [Add K] [Mul K] [Neg K] [Zero K] [One K]
def pwr(x:K):Nat->K
 |0=>1
 |n+1=>pwr x n*x
def sm(n:Nat)(f:Nat->K):K:=
 match n with
 |0=>0
 |n+1=>sm n f+f n
theorem Fd.zadd(H:Fd K)(x:K):x+0=x:=by rw[H.addC,H.addZ]
theorem Fd.nadd(H:Fd K)(x:K):-x+x=0:=by rw[H.addC,H.addN]
theorem Fd.cancel(H:Fd K){x y z:K}(h:x+y=x+z):y=z:=by
 have b:-x+(x+y)=-x+(x+z):=by rw[h]
 rwa [<- H.addA,<- H.addA,H.nadd,H.addZ,H.addZ] at b
theorem Fd.mulZ(H:Fd K)(x:K):x*0=0:=by have h:=H.dist x 0 0;rw[H.addZ] at h;exact H.cancel (x:=x*0) (by rw[<- h,H.zadd])
theorem Fd.zmul(H:Fd K)(x:K):0*x=0:=by rw[H.mulC,H.mulZ]
theorem Fd.umul(H:Fd K)(x:K):x*1=x:=by rw[H.mulC,H.mulU]
theorem Fd.rdist(H:Fd K)(x y z:K):(x+y)*z=x*z+y*z:=by rw[H.mulC,H.dist,H.mulC z x,H.mulC z y]
theorem Fd.negm(H:Fd K)(x y:K):-x*y=-(x*y):=by refine H.cancel (x:=x*y) ?_;rw[<- H.rdist,H.addN,H.zmul,H.addN]
theorem Fd.mneg(H:Fd K)(x y:K):x*-y=-(x*y):=by rw[H.mulC,H.negm,H.mulC]
theorem Fd.negz(H:Fd K):-(0:K)=0:=by have h:=H.addN (0:K);rwa [H.addZ] at h
theorem Fd.negu(H:Fd K){x y:K}(h:x+y=0):y=-x:=H.cancel (x:=x) (by rw[h,H.addN])
theorem Fd.sm_zero(H:Fd K){n:Nat}{f:Nat->K}(h:∀j,j<n->f j=0):sm n f=0:=by
 induction n with
 |zero=>rfl
 |succ n ih=>show sm n f+f n=0;rw[ih fun j hj=>h j U0,h n U0,H.addZ]
theorem Fd.sm_congr(_:Fd K){n:Nat}{f g:Nat->K}(h:∀j,j<n->f j=g j):sm n f=sm n g:=by
 induction n with
 |zero=>rfl
 |succ n ih=>show sm n f+f n=sm n g+g n;rw[ih fun j hj=>h j U0,h n U0]
theorem Fd.sm_add(H:Fd K)(n:Nat)(f g:Nat->K):sm n (fun j=>f j+g j)=sm n f+sm n g:=by
 induction n with
 |zero=>exact(H.addZ 0).symm
 |succ n ih=>show sm n (fun j=>f j+g j)+(f n+g n)=(sm n f+f n)+(sm n g+g n);rw[ih,H.addA,H.addA,<- H.addA (sm n g),H.addC (sm n g) (f n),H.addA]
theorem Fd.sm_mul(H:Fd K)(n:Nat)(a:K)(f:Nat->K):sm n (fun j=>a*f j)=a*sm n f:=by
 induction n with
 |zero=>exact(H.mulZ a).symm
 |succ n ih=>show sm n (fun j=>a*f j)+a*f n=a*(sm n f+f n);rw[ih,H.dist]
theorem Fd.sm_lin(H:Fd K)(n:Nat)(a:K)(f g:Nat->K):sm n (fun j=>f j+a*g j)=sm n f+a*sm n g:=by rw[H.sm_add,H.sm_mul]
theorem Fd.sm_one(H:Fd K){n i:Nat}{f:Nat->K}(b:i<n)(h:∀j,j<n->j≠i->f j=0):sm n f=f i:=by
 induction n with
 |zero=>omega
 |succ n ih=>
  show sm n f+f n=f i;by_cases e:i=n
  . subst e;rw[H.sm_zero fun j hj=>h j U0 U0,H.addZ]
  . rw[ih U0 fun j hj hne=>h j U0 hne,h n U0 (fun e2=>e e2.symm),H.zadd]
def ev:List K->K->K
 |[],_=>0
 |a :: r,x=>a+x*ev r x
end
end Al
end Go.Proofs.YtkcdlealipfnbaaGreat
namespace Go.Proofs.YtkcdlealipfnbaaGreat
open Go.RowKit Pln
def IntsUp(w:Wo)(lo:Nat)(A:OA)(zs:LI):Prop:=
 0<zs.length->∃b o,A=some (zA b o)/\lo<=b/\b<w.heap.size/\∀j,j<zs.length->w.cell? (zA b (o+j))=some (Y (zs.getD j 0))
theorem IntsUp.ints{w:Wo}{lo:Nat}{A:OA}{zs:LI}(h:IntsUp w lo A zs):zI w A zs:=fun hz=>by
 obtain⟨b,o,e,_,c,d⟩:=h hz
 exact⟨b,o,e,c,d⟩
theorem IntsUp.of_blocks{w w':Wo}{lo:Nat}{A:OA}{zs:LI}(h:IntsUp w lo A zs)(i:w.heap.size<=w'.heap.size)(g:∀k,lo<=k->k<w.heap.size->w'.heap[k]?=w.heap[k]?):IntsUp w' lo A zs:=fun hz=>by
 obtain⟨b,o,e,c,d,f⟩:=h hz
 refine⟨b,o,e,c,U0,fun j hj=>?_⟩
 have:w'.cell? (zA b (o+j))=w.cell? (zA b (o+j)):=by
  unfold World.cell?
  rw[g b c d]
 exact this.trans (f j hj)
theorem RowsUp.grow{w w':Wo}{lo:Nat}{A:OA}{zs:List LI}(h:RowsUp w lo A zs)(b:zB w w'):RowsUp w' lo A zs:=h.of_blocks b.size fun k _ hk=>b.block k hk
structure LGrid (w:Wo) (B:Nat) (v:Value) (rows:LL) (bs:List (Nat × Nat)) (k:Nat):Prop where
 len:bs.length=k
 le:k<=rows.length
 out:w.ownsRow B 23 1 v k ((List.range k).map (hdr rows bs))
 row:∀i,i<k->Row w B (bk bs i) (cp bs i) (nz (rows.getD i []))
 apart:∀i,i<k->v.ownBlock≠some (bk bs i)
theorem LGrid.step{w z A:Wo}{B:Nat}{v y:Value}{rows:LL}{t:List (Nat × Nat)}{k g c:Nat}{o:Obj}(h:LGrid w B v rows t k)(H:k<rows.length)(I:B<=w.heap.size)(C:zB w z)(E:Row z w.heap.size g c (nz (rows.getD k [])))(u:A.ownsRow B 23 1 y (k+1) ((List.range k).map (hdr rows t)++[zS g (rows.getD k []).length c]))(D:(z.alloc o).grownBy A v.ownBlock)(x:y.ownBlock=v.ownBlock\/y.ownBlock=some (z.alloc o).heap.size):
 LGrid A B y rows (t++[(g,c)]) (k+1):=by
 have r:=E.lt;have s:=C.size;have p:=fun b e=>(h.out.lt b e).2;have f:∀i,i<k->bk (t++[(g,c)]) i=bk t i/\cp (t++[(g,c)]) i=cp t i:=fun i hi=>by unfold bk cp;rw[getD_snoc_lt (by rw[h.len];exact hi)];exact⟨rfl,rfl⟩
 have j:bk (t++[(g,c)]) k=g/\cp (t++[(g,c)]) k=c:=by unfold bk cp;have:=getD_snoc_eq t (g,c) (0,0);rw[h.len] at this;rw[this];exact⟨rfl,rfl⟩
 refine⟨by simp[h.len],H,?_,fun i hi=>?_,fun i hi=>?_⟩
 . rw[List.range_succ,List.map_append];(have q:(List.range k).map (hdr rows (t++[(g,c)]))=(List.range k).map (hdr rows t):=List.map_congr_left fun i hi=>by unfold hdr;rw[(f i (List.mem_range.1 hi)).1,(f i (List.mem_range.1 hi)).2]);rw[q,List.map_cons,List.map_nil];unfold hdr at u ⊢;rw[j.1,j.2];exact u
 . by_cases m : i = k
   . subst m;rw[j.1,j.2];exact((E.base (B':=B) U0).alloc o).grown D (fun e=>by have:=p g e.symm;omega)
   . (have d:i<k:=by omega);rw[(f i d).1,(f i d).2];have n:=h.row i d;exact((n.below C n.lt.2).alloc o).grown D (fun e=>h.apart i d e.symm)
 . by_cases m : i = k
   . subst m;rw[j.1];rcases x with e|e
     . rw[e];exact fun l=>by have:=p g l;omega
     . rw[e];intro l;injection l with l;simp at l;omega
   . (have d : i < k:=by omega);rw[(f i d).1];rcases x with e|e
     . rw[e];exact h.apart i d
     . rw[e];have:=(h.row i d).lt.2;intro l;injection l with l;simp at l;omega
theorem own_slice'{w:Wo}{base n:Nat}{e:TypeId}{v:Value}{f:List Value}(h:w.ownsRow base e 1 v n f):∃VA ck,v=zL VA n ck/\(0<n->∃R,VA=some (zA R 0)):=by
 rcases h.2 with⟨b,c⟩|⟨g,cap,cur,d,_⟩
 . subst c;exact⟨_,_,b,fun h=>U0⟩
 . exact⟨_,_,d,fun _=>⟨g,rfl⟩⟩
theorem LGrid.up{w:Wo}{B:Nat}{m:OA}{n:Nat}{rows:LL}{l:List (Nat × Nat)}(h:LGrid w B (zL m rows.length n) rows l rows.length):RowsUp w B m (nzs rows):=by
 intro d;rw[nzs_len] at d;obtain⟨f,g,e,k⟩:=own_slice' h.out;injection e with e1 e2 e3;subst e1;obtain⟨R,rfl⟩:=k d;have b:=World.ownsRow.lt h.out R rfl;refine⟨R,0,rfl,b.1,b.2,fun i hi=>?_⟩;rw[nzs_len] at hi;have c:=h.row i hi;refine⟨bk l i,0,cp l i,?_,c.lt.1,c.lt.2,fun j hj=>?_⟩
 . rw[Nat.zero_add,nzs_getD,qaA,World.ownsRow.cellAt h.out i U0];simp[hi,hdr]
 . rw[nzs_getD] at hj ⊢;rw[Nat.zero_add];exact c.cell hj
theorem heap_set_same{w:Wo}{b:Nat}{cs:List Value}{t:TypeId}{fr:Nat × Nat}(h:w.heap[b]?=some (.cells cs.toArray t fr))(k:Nat)(v:Value):(w.setCell (zA b k) v).heap[b]?=some (.cells (cs.set k v).toArray t fr):=by simp[World.setCell,Array.getElem?_modify,h]
theorem IntsUp.lower{w:Wo}{lo g:Nat}{A:OA}{zs:LI}(h:IntsUp w lo A zs)(i:g<=lo):IntsUp w g A zs:=fun hz=>by
 obtain⟨b,o,e,f,c,d⟩:=h hz
 exact⟨b,o,e,U0,c,d⟩
theorem RowsUp.lower{w:Wo}{lo p:Nat}{A:OA}{zs:List LI}(h:RowsUp w lo A zs)(q:p<=lo):RowsUp w p A zs:=fun hz=>by
 obtain⟨b,o,e,m,f,k⟩:=h hz
 refine⟨b,o,e,U0,f,fun i hi=>?_⟩
 obtain⟨c,l,d,g,n,j⟩:=k i hi
 exact⟨c,l,d,g,U0,j⟩
end Go.Proofs.YtkcdlealipfnbaaGreat
namespace Go.Proofs.YtkcdlealipfnbaaGreat
open Go.RowKit Pln Go.Proofs.Tryz
def RelIx(zs:LI)(x:Int)(w:Wo)(v:Value)(wr:Wo):Prop:=∃k n:Nat,k<=zs.length/\v=Y k/\x∉zs.take k/\wr=w.drewN n
theorem not_take_succ{zs:LI}{x:Int}{k:Nat}(b:k<zs.length)(h:x∉zs.take k)(c:x≠zs.getD k 0):x∉zs.take (k+1):=by
 have e:zs.getD k 0=zs[k]:=by simp[List.getD,b]
 rw[List.take_succ_eq_append_getElem b,<- e,List.mem_append,not_or];exact⟨h,by simpa only[List.mem_singleton] using c⟩
theorem sindexv_c(zs:LI)(x:Int)(A:OA)(c:Nat)(w:Wo)(L:zI w A zs)(M:zs.length<=9223372036854775807):
 zC 144 #[zL A zs.length c,Y x] w fun e w'=>(∃r:Int,e=.returned (Y r)/\(0<=r ↔ x∈zs)/\(0<=r->∃k:Nat,r=(k:Int)/\k<zs.length/\zs.getD k 0=x))/\∃n,w'=w.drewN n:=by
 have B:=zH L;have u:zK (∀k,k<zs.length->x∉zs.take k->x≠zs.getD k 0->x∉zs.take (k+1)):=fun k l h he=>not_take_succ l h he;have p:zK (∀k,k<zs.length->x=zs.getD k 0->x∈zs):=fun k l he=>by
  have e:zs.getD k 0=zs[k]:=by simp[List.getD,l]
  rw[he,e];exact List.getElem_mem l
 have g:zK (x∉zs.take zs.length->x∉zs):=fun h=>by rwa [List.take_length] at h
 clear L;go_enter func144,ntmps144;go_wp2;go_loopw [8] (fun v8 wr=>RelIx zs x w v8 wr) (fun v8 _=>zs.length-(intOf v8).toNat);case atStart=>exact⟨0,0,U0,rfl,U2,rfl⟩
 case round =>
  obtain⟨k,n,l,rfl,m,rfl⟩:=hrel;have i:=zH m;clear m;by_cases d:k<zs.length
  . obtain ⟨b,o,rfl,H,I⟩ := B.o.at_ d;have D:=zH (p.o k d);have E:=zH (u.o k d i.o);generalize j:zs.getD k 0=z at *;have q:=zH j;clear j;have J:(0:Int)<=(k:Int):=U0;have K:(k:Int)<(zs.length:Int):=U0;by_cases f:x=z
    . (have y:(x==z)=true:=by simp[f]);have s:=zH (D.o f);have v:=zH (q.o.trans f.symm);clear f;go_wp2;go_ret;exact⟨⟨(k:Int),rfl,by simp[s.o],fun _=>⟨k,rfl,d,v.o⟩⟩,n,df⟩
    . (have y : (x == z) = false:=by simp[f]);have t:=zH (E.o f);clear f;go_wp2;go_roundw;case rel=>exact⟨k+1,n,U0,U3,t.o,df⟩
      case measure=>simp[intOf];omega
  . (obtain rfl:k=zs.length:=by omega);have C:=zH (g.o i.o);go_wp2;go_ret;exact⟨⟨-1,rfl,by simp[C.o],fun h=>absurd h dc⟩,n,rfl⟩
theorem sindex_c(zs:LI)(x:Int)(A:OA)(c:Nat)(w:Wo)(b:zI w A zs)(d:zs.length<=9223372036854775807):
 zC 144 #[zL A zs.length c,Y x] w fun e w'=>(∃r:Int,e=.returned (Y r)/\(0<=r ↔ x∈zs))/\∃n,w'=w.drewN n:=
 (sindexv_c zs x A c w b d).mono fun _ _ ⟨⟨r,h1,h2,_⟩,h3⟩=>⟨⟨r,h1,h2⟩,h3⟩
theorem contains_c(zs:LI)(x:Int)(A:OA)(c:Nat)(w:Wo)(f:zI w A zs)(g:zs.length<=9223372036854775807):
 zC 77 #[zL A zs.length c,Y x] w (Quiet (.bool (decide (x∈zs))) w):=by have b:=zH (sindex_c zs x A c w f g);clear f;go_enter func77,ntmps77;go_wp2_with fail;go_fit b.o;rintro e d ⟨⟨r,rfl,hr⟩,n1,rfl⟩;go_wp2;go_ret;exact⟨qaN (by by_cases h:x∈zs<;>simp_all),_,rfl⟩
end Go.Proofs.YtkcdlealipfnbaaGreat
namespace Go.Proofs.YtkcdlealipfnbaaGreat
open Go.RowKit Pln
structure OB (w:Wo) (n:Int) (rows:LL) (k:Nat) (v:Value) (bs:List (Nat × Nat)) (W:Wo):Prop where
 below:zB w W
 size:w.heap.size<W.heap.size
 box:W.heap[w.heap.size]?=some (.cells [Y n,v].toArray 54 (0,0))
 grid:LGrid W (w.heap.size+1) v rows bs k
section
variable {w:Wo} {n:Int} {rows:LL} {k:Nat} {v:Value} {bs:List (Nat × Nat)} {W W':Wo}
theorem LGrid.grow{B:Nat}(h:LGrid W B v rows bs k)(b:zB W W'):LGrid W' B v rows bs k:=by refine⟨h.len,h.le,?_,fun i hi=>(h.row i hi).below b (h.row i hi).lt.2,h.apart⟩;exact h.out.kept (row:=none) ⟨b.os,b.tape,b.output,b.size,fun j hj _=>b.block j hj⟩ (by cases v.ownBlock<;>simp)
end
def MatPost(w:Wo)(n:Int)(rows:LL)(e:Ending)(w':Wo):Prop:=
 (∃(A':OA)(c':Nat),e=.returned (.tuple #[Cx n A' rows.length c',Y 0])/\RowsUp w' w.heap.size A' (nzs rows))/\zB w w'
theorem natR_nzs(rows:LL):natR (nzs rows)=rows:=by
 unfold natR nzs nz;rw[List.map_map];conv=>rhs;rw[<- List.map_id rows]
 apply List.map_congr_left;intro r _;show(r.map fun x:Nat=>(x:Int)).map Int.toNat=id r;rw[List.map_map];conv=>rhs;rw[id,<- List.map_id r]
 apply List.map_congr_left;intro x _;simp
theorem errC_grid{p m:Int}{mod:LI}{cols:Int}{rows:LL}(h:errC p m mod cols (nzs rows)=0):fieldOK p m mod=true/\checkZ (p.toNat^m.toNat) cols (nzs rows)=0/\Grid (p.toNat^m.toNat) rows.length cols.toNat rows/\0<=cols/\cols<=256/\rows.length<=256:=by
 obtain⟨b,f⟩:fieldOK p m mod=true/\checkZ (p.toNat^m.toNat) cols (nzs rows)=0:=by
  unfold errC at h;split at h
  . exact⟨am,h⟩
  . simp at h
 obtain⟨_,c,g,i,d⟩:=check_grid f;rw[natR_nzs] at c;rw[nzs_len] at d;exact⟨b,f,c,g,i,d⟩
structure BoxH2 (w:Wo) (f a b r:Array Value) (W:Wo):Prop where
 below:zB w W
 size:w.heap.size+3<W.heap.size
 k1:W.heap[w.heap.size+1]?=some (.cells a 54 (0,0))
 k2:W.heap[w.heap.size+1+1]?=some (.cells b 54 (0,0))
 k3:W.heap[w.heap.size+1+1+1]?=some (.cells r 54 (0,0))
section
variable {w:Wo} {f a b r:Array Value} {W W':Wo}
theorem alloc_at{w:Wo}{n:Nat}(h:w.heap.size=n)(o:Obj):(w.alloc o).heap[n]?=some o:=by subst h;exact heap_alloc_new _ _
end
def LSt(w0 W:Wo):Prop:=zB w0 W
end Go.Proofs.YtkcdlealipfnbaaGreat
namespace Go.Proofs.YtkcdlealipfnbaaGreat
open Go.RowKit Pln Go.Proofs.Tryz
theorem ints_of_own{w:Wo}{B n k:Nat}{i:OA}{l:LN}(h:w.ownsRow B 3 1 (zL i n k) n ((nz l).map (Value.int .i64)))(m:l.length=n):IntsUp w B i (nz l):=fun hz=>by
 rw[qaA] at hz
 obtain⟨d,f,e,g⟩:=own_slice' h
 injection e with e1 e2 e3
 subst e1
 obtain⟨R,rfl⟩:=g U0
 have b:=World.ownsRow.lt h R rfl
 refine⟨R,0,rfl,b.1,b.2,fun j hj=>?_⟩
 rw[qaA] at hj
 rw[Nat.zero_add,World.ownsRow.cellAt h j U0]
 have c:j<(nz l).length:=by rw[qaA];exact hj
 simp[List.getD,c]
theorem elGo_piv_lt(O:Ops)(rows:LL):∀ c,∀ x∈(elGo O rows c).piv,x<c
 |0,x,hx=>by simp[elGo] at hx
 | c + 1,x,hx => by
   have ih:=elGo_piv_lt O rows c
   unfold elGo elStep at hx
   split at hx
   . split at hx
     . have:=ih x hx;omega
     . rcases List.mem_append.1 hx with h|h
       . have:=ih x h;omega
       . have : x = c:=by simpa using h
         omega
   . have:=ih x hx;omega
theorem canon2_c(gb Bg p m cols:Nat)(md l:LN)(rows:LL)(A:OA)(c:Nat)(w:Wo)(I:FT p m md l)(J:GFAt w Bg gb p m l (logL l (p^m)))(E:Bg<=w.heap.size)(H:zR w A (nzs rows))(D:Grid (p^m) rows.length cols rows)(M:1<=cols)(K:cols<=256)(L:rows.length<=256):
 zC 194 #[zP gb,zL A rows.length c,Y cols] w fun e w'=>(∃(R:Nat)(VA:OA)(ck:Nat),e=.returned (.tuple #[zS R (canonM (opsT p m l) rows cols).length (canonM (opsT p m l) rows cols).length,zL VA (canonM (opsT p m l) rows cols).length ck])/\RowsUp w' w.heap.size (zO R) (nzs (canonM (opsT p m l) rows cols))/\IntsUp w' w.heap.size VA (nz (elGo (opsT p m l) rows cols).piv))/\zB w w':=by
 have g:=zH (clone_c rows A c w H (fun r hr=>by have:=(D.2 r hr).1;omega) U0)
 have h:zK (∀(bs:List (Nat × Nat))(b:Wo),zB w b->GridAt b w.heap.size w.heap.size rows.length rows bs->zC 232 #[zP gb,zS w.heap.size rows.length rows.length,Y cols,zL none 0 0] b (ElPost b w.heap.size w.heap.size rows.length p m l rows cols)):=
  fun bs b hb hg=>eliminate_c w.heap.size w.heap.size rows.length gb Bg p m cols md l rows bs b I (J.keep (hb.mono E)) E hb.size hg D L K
 have n:=zH (canonM_len (opsT p m l) rows cols);have f:=zH (elGo_piv (O:=opsT p m l) rows cols);have q:=zH (qfD (O:=opsT p m l) rows cols);have j:=zH (qfB (opsT p m l) rows cols);clear I J H D;generalize canonM (opsT p m l) rows cols=B at *;go_enter func194,ntmps194;go_wp2_with fail;go_fit g.o;rintro e b ⟨rfl,⟨bs,hg⟩,hb⟩;have y:=zH hg;have s:=zH hb;clear hg hb;go_wp2_with fail;(with_reducible refine(h.o bs b s.o y.o).mono ?_);rintro e C ⟨⟨vp,d,bs2,rfl,hown,hgrid⟩,hb2⟩;obtain⟨VA,ck,rfl⟩:=own_slice hown;have v:zK (IntsUp C w.heap.size VA (nz (elGo (opsT p m l) rows cols).piv)):=(ints_of_own hown rfl).lower (by have:=s.o.size;omega);have k:=zH hgrid;have t:=zH (s.o.trans hb2);clear hown hgrid hb2;have z:=zH<|k.o.rowsAt B (by rw[n.o,q.o];exact f.o.2) (fun i hi=>j.o i (by rw[<- n.o];exact hi))
 have x:=f.o.2;rw[<- n.o] at x;have u:=zH n.o.symm;clear n f q j g h k;rw[u.o];go_wp2;go_ret2;exact⟨⟨_,_,_,rfl,z.o,v.o⟩,t.o⟩
def kerK(O:Ops)(rows:LL)(piv:LN)(cols c:Nat):Nat->LN
 |0=>(List.replicate cols 0).set c 1
 |i+1=>(kerK O rows piv cols c i).set (piv.getD i 0) (O.neg ((rows.getD i []).getD c 0))
theorem kerK_len(O:Ops)(rows:LL)(piv:LN)(cols c:Nat):∀i,(kerK O rows piv cols c i).length=cols
 |0=>by simp[kerK]
 |i+1=>by simp[kerK,kerK_len O rows piv cols c i]
theorem kerK_lt{q n cols:Nat}{O:Ops}(E:OpsEq q O O)(f:1<q){rows:LL}(b:Grid q n cols rows){piv:LN}{c:Nat}(d:c<cols):∀ i,i<=n->∀ x∈kerK O rows piv cols c i,x<q
 |0,_,x,hx=>by
   unfold kerK at hx
   rcases List.mem_or_eq_of_mem_set hx with h|h
   . simp at h;omega
   . omega
 | i + 1,hi,x,hx => by
   unfold kerK at hx
   rcases List.mem_or_eq_of_mem_set hx with h|h
   . exact kerK_lt E f b d i U0 x h
   . rw [h]
     have hr:=b.row (i:=i) U0
     have:(rows.getD i []).getD c 0=(rows.getD i [])[c]'(by rw[hr.1];exact d):=by
      have:∀(l:LN)(hj:c<l.length),l.getD c 0=l[c]:=fun l hj=>by simp[List.getD,hj]
      exact this _ _
     rw[this]
     exact(E.neg _ (hr.2 _ (List.getElem_mem _))).2
def freeC(piv:LN)(c:Nat):LN:=(List.range c).filter fun x=>!decide (x∈piv)
def kerRows(O:Ops)(rows:LL)(piv:LN)(cols:Nat):LL:=(freeC piv cols).map fun c=>kerK O rows piv cols c piv.length
theorem freeC_succ(piv:LN)(c:Nat):freeC piv (c+1)=freeC piv c++if c∈piv then[] else[c]:=by unfold freeC;rw[List.range_succ,List.filter_append];by_cases h:c∈piv<;>simp[h]
theorem freeC_le(piv:LN)(c:Nat):(freeC piv c).length<=c:=by unfold freeC;have:=List.length_filter_le (fun x=>!decide (x∈piv)) (List.range c);simpa using this
theorem freeC_at(piv:LN):∀ (cols c:Nat),c<cols->c∉piv->(freeC piv c).length<(freeC piv cols).length/\(freeC piv cols).getD (freeC piv c).length 0=c
 |0,c,h,_=>by omega
 | n + 1,c,h,hp => by
   rw[freeC_succ]
   by_cases hcn:c=n
   . subst hcn
     rw[if_neg hp]
     exact⟨U2,by simp[List.getD]⟩
   . obtain⟨i1,i2⟩:=freeC_at piv n c U0 hp
     refine⟨by rw[List.length_append];omega,?_⟩
     rw[show(freeC piv n++if n∈piv then[] else[n]).getD (freeC piv c).length 0=(freeC piv n).getD (freeC piv c).length 0 by simp only[List.getD,List.getElem?_append_left i1]]
     exact i2
theorem kerRows_len(O:Ops)(rows:LL)(piv:LN)(cols:Nat):(kerRows O rows piv cols).length=(freeC piv cols).length:=by simp[kerRows]
theorem kerRows_at(O:Ops)(rows:LL)(piv:LN)(cols c:Nat)(f:c<cols)(g:c∉piv):(kerRows O rows piv cols).getD (freeC piv c).length []=kerK O rows piv cols c piv.length:=by
 obtain⟨b,d⟩:=freeC_at piv cols c f g;have e:(freeC piv cols)[(freeC piv c).length]?=some c:=by rw[List.getElem?_eq_getElem b];rw[List.getD,List.getElem?_eq_getElem b] at d;simpa using d
 simp[kerRows,List.getD,e]
theorem kerRows_grid{q n cols:Nat}{O:Ops}(E:OpsEq q O O)(f:1<q){rows:LL}{piv:LN}(g:Grid q n cols rows)(h:piv.length=n):Grid q (kerRows O rows piv cols).length cols (kerRows O rows piv cols):=by
 refine⟨rfl,fun r hr=>?_⟩;unfold kerRows at hr;obtain⟨c,d,rfl⟩:=List.mem_map.1 hr;have b:c<cols:=by have:=(List.mem_filter.1 d).1;simpa using this
 exact⟨kerK_len _ _ _ _ _ _,kerK_lt E f g b _ U0⟩
def kerM(O:Ops)(rows:LL)(cols:Nat):LL:=canonM O (kerRows O (canonM O rows cols) (elGo O rows cols).piv cols) cols
def RelKer(w2:Wo)(piv:LN)(cols:Nat)(kr:LL)(v10 v37:Value)(wr:Wo):Prop:=
 ∃(c:Nat)(bs:List (Nat × Nat)),c<=cols/\v37=Y c/\LGrid wr (w2.heap.size) v10 kr bs (freeC piv c).length/\zB w2 wr
def RelKi(w4:Wo)(O:Ops)(rows:LL)(piv:LN)(cols c:Nat)(v51:Value)(wr:Wo):Prop:=
 ∃i:Nat,i<=piv.length/\v51=Y i/\Row wr w4.heap.size w4.heap.size cols (nz (kerK O rows piv cols c i))/\zB w4 wr
theorem canon_grid{q n cols:Nat}{O:Ops}(E:OpsEq q O O){rows:LL}(g:Grid q n cols rows):Grid q (elGo O rows cols).piv.length cols (canonM O rows cols):=by
 have d:=(qdT E g cols zn).2;have f:=(elGo_piv (O:=O) rows cols).2;refine⟨canonM_len O rows cols,fun r hr=>?_⟩;obtain⟨i,b,rfl⟩:=List.mem_iff_getElem.1 hr;have c:i<(elGo O rows cols).piv.length:=by rw[canonM_len] at b;exact b
 have e:(canonM O rows cols)[i]=(elGo O rows cols).rows.getD i []:=by rw[<- qfB O rows cols i c];simp[List.getD,b]
 rw[e];exact d.row (i:=i) (by rw[g.1] at f;omega)
end Go.Proofs.YtkcdlealipfnbaaGreat
namespace Go.Proofs.YtkcdlealipfnbaaGreat
open Pln
namespace Al
structure El (q:Nat) (O:Ops) (h:Fld q O) where
 n:Nat
 lt:n<q
section
variable {q:Nat} {O:Ops} {h:Fld q O}
theorem El.eq{x y:El q O h}(e:x.n=y.n):x=y:=by cases x;cases y;simp only at e;subst e;rfl
instance:Add (El q O h):=⟨fun x y=>⟨O.add x.n y.n,h.addL _ _ x.lt y.lt⟩⟩
instance:Mul (El q O h):=⟨fun x y=>⟨O.mul x.n y.n,h.mulL _ _ x.lt y.lt⟩⟩
instance:Neg (El q O h):=⟨fun x=>⟨O.neg x.n,h.negL _ x.lt⟩⟩
instance:Zero (El q O h):=⟨⟨0,by have:=h.q1;omega⟩⟩
instance:One (El q O h):=⟨⟨1,h.q1⟩⟩
theorem El.fd:Fd (El q O h) where
 addC x y:=El.eq (h.addC _ _ x.lt y.lt)
 addA x y z:=El.eq (h.addA _ _ _ x.lt y.lt z.lt)
 addZ x:=El.eq (h.addZ _ x.lt)
 addN x:=El.eq (h.addN _ x.lt)
 mulC x y:=El.eq (h.mulC _ _ x.lt y.lt)
 mulA x y z:=El.eq (h.mulA _ _ _ x.lt y.lt z.lt)
 mulU x:=El.eq (h.mulU _ x.lt)
 dist x y z:=El.eq (h.dist _ _ _ x.lt y.lt z.lt)
 inv x hx:=by
  have b:x.n≠0:=fun e=>hx (El.eq e)
  exact⟨⟨O.inv x.n,h.invL _ x.lt b⟩,El.eq (h.inv _ x.lt b)⟩
 ne e:=by
  have:(1:Nat)=0:=congrArg El.n e
  omega
def El.of(h:Fld q O)(x:Nat):El q O h:=if hx:x<q then⟨x,hx⟩ else 0
theorem El.of_n{x:Nat}(b:x<q):(El.of h x).n=x:=by unfold El.of;rw[dif_pos b]
theorem El.of_zero:El.of h 0=0:=El.eq (El.of_n (by have:=h.q1;omega))
theorem El.of_one:El.of h 1=1:=El.eq (El.of_n h.q1)
theorem El.of_add{x y:Nat}(b:x<q)(c:y<q):El.of h (O.add x y)=El.of h x+El.of h y:=by refine El.eq ?_;rw[El.of_n (h.addL _ _ b c)];show _=O.add (El.of h x).n (El.of h y).n;rw[El.of_n b,El.of_n c]
theorem El.of_mul{x y:Nat}(b:x<q)(c:y<q):El.of h (O.mul x y)=El.of h x*El.of h y:=by refine El.eq ?_;rw[El.of_n (h.mulL _ _ b c)];show _=O.mul (El.of h x).n (El.of h y).n;rw[El.of_n b,El.of_n c]
theorem El.of_neg{x:Nat}(b:x<q):El.of h (O.neg x)=-El.of h x:=by refine El.eq ?_;rw[El.of_n (h.negL _ b)];show _=O.neg (El.of h x).n;rw[El.of_n b]
theorem El.of_ne{x:Nat}(c:x<q)(b:x≠0):El.of h x≠0:=fun e=>b (by
 have:=congrArg El.n e
 rwa [El.of_n c] at this)
theorem Fld.self(h:Fld q O):OpsEq q O O where
 add x y hx hy:=⟨rfl,h.addL x y hx hy⟩
 mul x y hx hy:=⟨rfl,h.mulL x y hx hy⟩
 neg x hx:=⟨rfl,h.negL x hx⟩
 inv x hx h0:=⟨rfl,h.invL x hx h0⟩
def wd(h:Fld q O)(w:LN)(j:Nat):El q O h:=El.of h (w.getD j 0)
theorem getD_at{l:LN}{j:Nat}(b:j<l.length):l.getD j 0=l[j]:=by simp[List.getD,b]
theorem getD_ok{l:LN}(h:∀x∈l,x<q)(c:0<q)(j:Nat):l.getD j 0<q:=by
 by_cases b:j<l.length
 . rw[getD_at b];exact h _ (List.getElem_mem b)
 . rw[qaZ U0];exact c
theorem qeH(n j:Nat):wd h (List.replicate n 0) j=0:=by
 unfold wd;have:(List.replicate n 0).getD j 0=0:=by simp[List.getD,List.getElem?_replicate];split<;>rfl
 rw[this,El.of_zero]
theorem wd_addRow{v u:LN}{a:Nat}(m:a<q)(o:∀ x∈v,x<q)(n:∀ x∈u,x<q)(p:v.length=u.length)(j:Nat):wd h (addRow O v a u) j=wd h v j+El.of h a*wd h u j:=by
 have H:=El.fd (h:=h);unfold wd;by_cases k:j<v.length
 . (have c : j < u.length:=by omega);(have e:(addRow O v a u).getD j 0=if u.getD j 0=0 then v.getD j 0 else O.add (v.getD j 0) (O.mul a (u.getD j 0)):=by rw[getD_at k,getD_at c,getD_at (by unfold addRow;rw[List.length_zipWith];omega)];unfold addRow;rw[List.getElem_zipWith]);have l:=getD_ok o (by have:=h.q1;omega) j;have d:=getD_ok n (by have:=h.q1;omega) j;rw[e];by_cases b:u.getD j 0=0
   . rw[if_pos b,b,El.of_zero,H.mulZ,H.zadd]
   . rw[if_neg b,El.of_add l (h.mulL _ _ m d),El.of_mul m d]
 . have f:v.getD j 0=0:=qaZ U0;have g:u.getD j 0=0:=qaZ U0;have i:(addRow O v a u).getD j 0=0:=qaZ (by unfold addRow;rw[List.length_zipWith];omega);rw[f,g,i,El.of_zero,H.mulZ,H.addZ]
theorem wd_scale{u:LN}{a:Nat}(f:a<q)(g:∀x∈u,x<q)(j:Nat):wd h (scaleRow O a u) j=El.of h a*wd h u j:=by
 have H:=El.fd (h:=h);unfold wd;by_cases b:j<u.length
 . (have e:(scaleRow O a u).getD j 0=O.mul a (u.getD j 0):=by rw[getD_at b,getD_at (by unfold scaleRow;rw[List.length_map];exact b)];unfold scaleRow;rw[List.getElem_map]);rw[e,El.of_mul f (getD_ok g (by have:=h.q1;omega) j)]
 . have c:u.getD j 0=0:=qaZ U0;have d:(scaleRow O a u).getD j 0=0:=qaZ (by unfold scaleRow;rw[List.length_map];omega);rw[c,d,El.of_zero,H.mulZ]
structure LinF (q:Nat) (O:Ops) (h:Fld q O) (Q:(Nat->El q O h)->Prop):Prop where
 zero:Q fun _=>0
 step:∀f g a,Q f->Q g->Q fun j=>f j+a*g j
theorem LinF.addRow{Q:(Nat->El q O h)->Prop}(L:LinF q O h Q){v u:LN}{a:Nat}(d:a<q)(i:∀x∈v,x<q)(g:∀x∈u,x<q)(f:v.length=u.length)(b:Q (wd h v))(c:Q (wd h u)):Q (wd h (addRow O v a u)):=by rw[show wd h (Pln.addRow O v a u)=fun j=>wd h v j+El.of h a*wd h u j from funext fun j=>wd_addRow d i g f j];exact L.step _ _ _ b c
theorem LinF.scale{Q:(Nat->El q O h)->Prop}(L:LinF q O h Q){u:LN}{a:Nat}(c:a<q)(d:∀x∈u,x<q)(b:Q (wd h u)):Q (wd h (scaleRow O a u)):=by rw[show wd h (scaleRow O a u)=fun j=>0+El.of h a*wd h u j from funext fun j=>by rw[wd_scale c d,El.fd.addZ]];exact L.step _ _ _ L.zero b
theorem mem_getD{rows:LL}{i:Nat}(b:i<rows.length):rows.getD i []∈rows:=by
 have:rows.getD i []=rows[i]:=by simp[List.getD,b]
 rw[this];exact List.getElem_mem b
section
variable {Q:(Nat->El q O h)->Prop} {n cols:Nat}
theorem LinF.clear(L:LinF q O h Q){rows:LL}(o:Grid q n cols rows){c t:Nat}(l:c<cols)(m:t<n)(p:∀ r∈rows,Q (wd h r)):∀ i,i<=n->∀ r∈clearGo O c t rows i,Q (wd h r)
 |0,_=>p
 | i + 1,hi => by
   have ih:=LinF.clear L o l m p i U0
   obtain⟨_,g⟩:=qdJ h.self o l m i U0
   unfold clearGo
   split
   . intro r b
     rcases List.mem_or_eq_of_mem_set b with b|rfl
     . exact ih r b
     . obtain⟨d,f⟩:=g.row (i:=i) U0
       obtain⟨j,k⟩:=g.row m
       exact L.addRow (h.negL _ (g.at_ U0 l)) f k (by rw[d,j]) (ih _ (mem_getD (by rw[g.1];omega))) (ih _ (mem_getD (by rw[g.1];omega)))
   . exact ih
theorem LinF.elim(L:LinF q O h Q){rows:LL}(B:Grid q n cols rows)(C:∀ r∈rows,Q (wd h r)):∀ c,c<=cols->∀ r∈(elGo O rows c).rows,Q (wd h r)
 |0,_=>C
 | c + 1,hc => by
   have ih:=LinF.elim L B C c U0
   obtain⟨_,g⟩:=qdT h.self B c U0
   unfold elGo
   generalize elGo O rows c=s at *
   unfold elStep
   by_cases p:s.piv.length<s.rows.length
   . simp only [if_pos p]
     have z:=qdF s.rows c (s.rows.length-s.piv.length) s.piv.length
     by_cases t:findRow s.rows c (s.rows.length-s.piv.length) s.piv.length=s.rows.length
     . simp only[if_pos t]
       exact ih
     . simp only [if_neg t]
       have d:=qcF s.rows c (s.rows.length-s.piv.length) s.piv.length U0
       generalize findRow s.rows c (s.rows.length-s.piv.length) s.piv.length=k at *
       have l:=g.1
       have f:=qdC g (i:=s.piv.length) (j:=k) U0 U0
       have o:at2 (swapRows s.rows s.piv.length k) s.piv.length c≠0:=by
        unfold at2 at d ⊢
        rw[qfT U0 U0]
        exact d
       have m:∀ r∈swapRows s.rows s.piv.length k,Q (wd h r):=by
        intro r b
        unfold swapRows at b
        rcases List.mem_or_eq_of_mem_set b with b|rfl
        . rcases List.mem_or_eq_of_mem_set b with b|rfl
          . exact ih r b
          . exact ih _ (mem_getD U0)
        . exact ih _ (mem_getD U0)
       generalize swapRows s.rows s.piv.length k=y at *
       obtain⟨_,u⟩:=qfW h.self f (i:=s.piv.length) U0 U0 o
       have v:∀ r∈normRow O y s.piv.length c,Q (wd h r):=by
        unfold normRow
        split
        . exact m
        . intro r b
          rcases List.mem_or_eq_of_mem_set b with b|rfl
          . exact m r b
          . obtain⟨A,x⟩:=f.row (i:=s.piv.length) U0
            exact L.scale (h.invL _ (f.at_ U0 U0) o) x (m _ (mem_getD (by rw[f.1];omega)))
       rw[l]
       exact LinF.clear L u U0 U0 v n zn
   . simp only[if_neg p]
     exact ih
theorem LinF.canon(L:LinF q O h Q){rows:LL}(c:Grid q n cols rows)(d:∀r∈rows,Q (wd h r)):∀r∈canonM O rows cols,Q (wd h r):=by intro r b;unfold canonM at b;exact L.elim c d cols zn r (List.mem_of_mem_take b)
theorem LinF.comb(L:LinF q O h Q){rows:LL}{n:Nat}(m:∀ r∈rows,Dv.Ok q n r/\Q (wd h r)):∀ (msg out:LN),(∀ x∈msg,x<q)->Dv.Ok q n out->Q (wd h out)->Q (wd h (Dv.combO O out msg rows))/\Dv.Ok q n (Dv.combO O out msg rows):=by
 induction rows with
 |nil=>intro msg out _ b c;cases msg<;>exact⟨c,b⟩
 |cons r rs ih=>
  intro msg out f b c;cases msg with
  |nil=>exact⟨c,b⟩
  |cons x xs=>
   unfold Dv.combO;obtain⟨⟨j,k⟩,l⟩:=m r List.mem_cons_self;have d:=ih (fun y hy=>m y (List.mem_cons_of_mem _ hy)) xs;have i:=f x List.mem_cons_self;by_cases g:x=0
   . rw[if_pos g];exact d out (fun y hy=>f y (List.mem_cons_of_mem _ hy)) b c
   . rw[if_neg g];exact d _ (fun y hy=>f y (List.mem_cons_of_mem _ hy)) ⟨by unfold Pln.addRow;rw[List.length_zipWith,b.1,j,Nat.min_self],(qdB h.self i b.2 k).2⟩ (L.addRow i b.2 k (by rw[b.1,j]) c l)
end
def UnitC(r:Nat)(rows:LL)(piv:LN):Prop:=∀i,i<rows.length->∀k,k<r->at2 rows i (piv.getD k 0)=if i=k then 1 else 0
theorem qcJ{rows:LL}(i c:Nat):El.of h (at2 rows i c)=wd h (rows.getD i []) c:=rfl
theorem at2_set{rows:LL}{i:Nat}(b:i<rows.length)(r:LN)(k c:Nat):at2 (rows.set i r) k c=if k=i then r.getD c 0 else at2 rows k c:=by
 unfold at2;by_cases e:k=i
 . subst e;rw[if_pos rfl];simp[List.getD,b]
 . rw[if_neg e];simp only[List.getD];rw[List.getElem?_set_ne (fun e2=>e e2.symm)]
theorem addRow_at{v u:LN}{a:Nat}{j:Nat}(b:j<v.length)(c:v.length=u.length):(addRow O v a u).getD j 0=if u.getD j 0=0 then v.getD j 0 else O.add (v.getD j 0) (O.mul a (u.getD j 0)):=by rw[getD_at b,getD_at (show j<u.length by omega),getD_at (by unfold addRow;rw[List.length_zipWith];omega)];unfold addRow;rw[List.getElem_zipWith]
theorem clear_at(h:Fld q O){n cols:Nat}{rows:LL}(C:Grid q n cols rows){c t:Nat}(z:c<cols)(A:t<n)(B:at2 rows t c=1):∀ i,i<=n ->
 (∀k,k<n->∀j,j<cols->at2 rows t j=0->at2 (clearGo O c t rows i) k j=at2 rows k j)/\(∀j,at2 (clearGo O c t rows i) t j=at2 rows t j)/\(∀k,k<i->k≠t->at2 (clearGo O c t rows i) k c=0)/\(∀k,i<=k->∀j,at2 (clearGo O c t rows i) k j=at2 rows k j)
 |0,_=>⟨fun _ _ _ _ _=>rfl,fun _=>rfl,fun k hk=>U0,fun _ _ _=>rfl⟩
 | i + 1,hi => by
   have hq:=h.q1
   obtain⟨o,f,r,s⟩:=clear_at h C z A B i U0
   obtain⟨_,g⟩:=qdJ h.self C z A i U0
   unfold clearGo
   split
   . rename_i hne
     obtain⟨l,p⟩:=hne
     generalize clearGo O c t rows i=R at *
     have b:i<R.length:=by rw[g.1];omega
     obtain⟨u,v⟩:=g.row (i:=i) U0
     obtain⟨x,y⟩:=g.row A
     have d:∀j,j<cols->(addRow O (R.getD i []) (O.neg (at2 R i c)) (R.getD t [])).getD j 0=if at2 R t j=0 then at2 R i j else O.add (at2 R i j) (O.mul (O.neg (at2 R i c)) (at2 R t j)):=fun j hj=>addRow_at U0 U0
     refine⟨fun k hk j hj h0=>?_,fun j=>?_,fun k hk hkt=>?_,fun k hk j=>?_⟩
     . rw [at2_set b]
       split
       . rename_i e
         subst e
         rw[d j hj,if_pos (by rw[f j];exact h0)]
         exact o k hk j hj h0
       . exact o k hk j hj h0
     . rw[at2_set b,if_neg (fun e=>l e.symm)]
       exact f j
     . rw [at2_set b]
       split
       . rename_i e
         subst e
         rw[d c z,f c,B,if_neg U0]
         have m:=g.at_ (i:=k) (c:=c) U0 z
         rw[h.mulC _ _ (h.negL _ m) h.q1,h.mulU _ (h.negL _ m),h.addN _ m]
       . exact r k U0 hkt
     . rw[at2_set b,if_neg U0]
       exact s k U0 j
   . rename_i hne
     refine⟨o,f,fun k hk hkt=>?_,fun k hk j=>s k U0 j⟩
     by_cases e:k=i
     . subst e
       refine Classical.byContradiction fun p=>hne ⟨hkt,p⟩
     . exact r k U0 hkt
theorem unit_elim(h:Fld q O){n cols:Nat}{rows:LL}(hG:Grid q n cols rows):∀ c,c<=cols->UnitC (elGo O rows c).piv.length (elGo O rows c).rows (elGo O rows c).piv
 |0,_=>fun i _ k hk=>by simp[elGo] at hk
 | c + 1,hc => by
   have ih:=unit_elim h hG c U0
   obtain⟨_,g⟩:=qdT h.self hG c U0
   have C:=elGo_piv_lt O rows c
   have Z:=h.q1
   unfold elGo
   generalize elGo O rows c=s at *
   unfold elStep
   by_cases H:s.piv.length<s.rows.length
   . simp only [if_pos H]
     have X:=qdF s.rows c (s.rows.length-s.piv.length) s.piv.length
     by_cases I:findRow s.rows c (s.rows.length-s.piv.length) s.piv.length=s.rows.length
     . simp only[if_pos I]
       exact ih
     . simp only [if_neg I]
       have y:=qcF s.rows c (s.rows.length-s.piv.length) s.piv.length U0
       generalize findRow s.rows c (s.rows.length-s.piv.length) s.piv.length=k at *
       have B:=g.1
       have A:∀a,a<s.piv.length->s.piv.getD a 0<cols:=fun a f=>by
        have W:=C (s.piv.getD a 0) (by rw[getD_at f];exact List.getElem_mem f)
        omega
       have u:=qdC g (i:=s.piv.length) (j:=k) U0 U0
       have r:at2 (swapRows s.rows s.piv.length k) s.piv.length c≠0:=by
        unfold at2 at y ⊢
        rw[qfT U0 U0]
        exact y
       have V:UnitC s.piv.length (swapRows s.rows s.piv.length k) s.piv:=by
        intro i m a f
        have l:i<s.rows.length:=by unfold swapRows at m;simpa using m
        have L:=ih k U0 a f
        have M:=ih s.piv.length U0 a f
        rw[if_neg U0] at L M
        unfold swapRows
        rw[at2_set so,at2_set U0]
        by_cases D:i=k
        . rw[if_pos D,if_neg U0]
          exact M
        . rw [if_neg D]
          by_cases E:i=s.piv.length
          . rw[if_pos E,if_neg U0]
            exact L
          . rw[if_neg E]
            exact ih i l a f
       have S:(swapRows s.rows s.piv.length k).length=n:=by rw[u.1]
       generalize swapRows s.rows s.piv.length k=d at *
       obtain⟨_,v⟩:=qfW h.self u (i:=s.piv.length) U0 U0 r
       have o:∀ i,i<n->∀ j,j<cols->at2 (normRow O d s.piv.length c) i j=if i=s.piv.length then (if at2 d s.piv.length c=1 then at2 d i j else O.mul (O.inv (at2 d s.piv.length c)) (at2 d i j)) else at2 d i j:=by
        intro i m j R
        unfold normRow
        by_cases e:at2 d s.piv.length c=1
        . rw[if_pos e]
          by_cases b:i=s.piv.length
          . rw[if_pos b,if_pos e]
          . rw[if_neg b]
        . rw [if_neg e,at2_set U0]
          by_cases b:i=s.piv.length
          . rw[if_pos b,if_pos b,if_neg e]
            obtain⟨U,_⟩:=u.row (i:=s.piv.length) U0
            rw[getD_at (by unfold scaleRow;rw[List.length_map,U];exact R)]
            unfold scaleRow
            rw[List.getElem_map,<- getD_at]
            rw[b]
            rfl
          . rw[if_neg b,if_neg b]
       have J:at2 (normRow O d s.piv.length c) s.piv.length c=1:=by
        rw[o _ U0 c U0,if_pos rfl]
        by_cases e:at2 d s.piv.length c=1
        . rw[if_pos e]
          exact e
        . rw[if_neg e]
          have p:=u.at_ (i:=s.piv.length) (c:=c) U0 U0
          rw[h.mulC _ _ (h.invL _ p r) p,h.inv _ p r]
       have K:UnitC s.piv.length (normRow O d s.piv.length c) s.piv:=by
        intro i m a f
        rw[v.1] at m
        have z:=V i U0 a f
        rw[o i m _ (A a f)]
        by_cases e:i=s.piv.length
        . have x : ¬ i = a := by omega
          rw[if_neg x] at z
          rw[if_pos e,if_neg x]
          by_cases b:at2 d s.piv.length c=1
          . rw[if_pos b]
            exact z
          . rw[if_neg b,z]
            have p:=u.at_ (i:=s.piv.length) (c:=c) U0 U0
            rw[h.mulC _ _ (h.invL _ p r) U0,h.mulZ _ (h.invL _ p r)]
        . rw[if_neg e]
          exact z
       generalize normRow O d s.piv.length c=T at *
       obtain⟨c1,c2,N,_⟩:=clear_at h v (t:=s.piv.length) (by omega:c<cols) U0 J n zn
       obtain⟨_,P⟩:=qdJ h.self v (c:=c) (t:=s.piv.length) U0 U0 n zn
       rw[B]
       intro i m a f
       show at2 (clearGo O c s.piv.length T n) i ((s.piv++[c]).getD a 0)=_
       have l:i<n:=by rw[<- P.1];exact m
       have Q:a<s.piv.length+1:=by simpa using f
       by_cases e:a=s.piv.length
       . rw [show (s.piv ++ [c]).getD a 0 = c by rw [e];simp [List.getD]]
         by_cases b:i=a
         . rw[if_pos b,b,e,c2 c,J]
         . rw[if_neg b]
           exact N i l U0
       . rw[show(s.piv ++ [c]).getD a 0 = s.piv.getD a 0 by simp only[List.getD];rw[List.getElem?_append_left U0]]
         have z:=K s.piv.length (by rw[v.1];omega) a U0
         rw[if_neg U0] at z
         rw[c1 i l _ (A a U0) z]
         exact K i (by rw[v.1];omega) a U0
   . simp only[if_neg H]
     exact ih
theorem unit_canon(h:Fld q O){n cols:Nat}{rows:LL}(b:Grid q n cols rows){i k:Nat}(c:i<(elGo O rows cols).piv.length)(d:k<(elGo O rows cols).piv.length):at2 (canonM O rows cols) i ((elGo O rows cols).piv.getD k 0)=if i=k then 1 else 0:=by unfold at2;rw[qfB O rows cols i c];exact unit_elim h b cols zn i (by have:=(elGo_piv (O:=O) rows cols).2;rw[qfD];omega) k d
end
end Al
end Go.Proofs.YtkcdlealipfnbaaGreat
namespace Go.Proofs.YtkcdlealipfnbaaGreat
open Go.RowKit
section
variable {P:Program} {ops:Array Oper} {md:Region.Mode} {S:Wo->Prop} {Q:Exit->Act->Wo->Prop} {n g s x lo:Nat} {ox:Oper} {ob:Obj}
def ptrTo(b:Nat):Value:=zP b
def StepTo(P:Program)(o:Oper)(a:Act)(W:Wo)(Φ:Value->Wo->Prop):Prop:=
 (∃f args,(execOp a.eval o).run P W=.ok (.enter f args) W/\Calls P f args W fun e w'=>∃u,e=.returned u/\Φ u w')\/(∃v w',(execOp a.eval o).run P W=.ok (.value v) w'/\Φ v w')
def wpX(P:Program)(S:Wo->Prop)(ob:Obj)(dx:Option Tmp)(lo:Nat)(K:Act->Wo->Prop)(r2:List (Nat × Oper)):List (Nat × Oper)->(Nat->Prop)->Act->Wo->Prop
 |[],F,a,w=>∀W b,zB w W->S W->lo<=b->¬F b->W.heap[b]?=some ob->wpMixF P S K r2 (a.put dx (ptrTo b)) W
 |(0,o):: r,F,a,w=>∃v,(o.guard=none/\∀w,S w->(execOp a.eval o).run P w=.ok (.value v) w)/\wpX P S ob dx lo K r2 r F (a.put o.dst v) w
 |(1,o):: r,F,a,w=>∃v,(o.guard=none/\∀w,(execOp a.eval o).run P w=.ok (.value v) w)/\wpX P S ob dx lo K r2 r F (a.put o.dst v) w
 |(_,o):: r,F,a,w=>o.guard=none/\∀W,zB w W->S W->StepTo P o a W fun u w'=>S w'/\zB W w'/\wpX P S ob dx lo K r2 r (fun b=>F b\/(W.heap.size<=b/\b<w'.heap.size)) (a.put o.dst u) w'
section
variable {dx:Option Tmp} {K:Act->Wo->Prop} {o:Oper} {r r2:List (Nat × Oper)} {F:Nat->Prop} {a:Act} {w:Wo}
theorem x_nil(h:∀W b,zB w W->S W->lo<=b->¬F b->W.heap[b]?=some ob->wpMixF P S K r2 (a.put dx (ptrTo b)) W):wpX P S ob dx lo K r2 [] F a w:=h
theorem x_val{v:Value}(b:o.guard=none)(c:∀w,S w->(execOp a.eval o).run P w=.ok (.value v) w)(h:wpX P S ob dx lo K r2 r F (a.put o.dst v) w):wpX P S ob dx lo K r2 ((0,o):: r) F a w:=⟨v,⟨b,c⟩,h⟩
theorem x_free{v:Value}(b:o.guard=none)(c:∀w,(execOp a.eval o).run P w=.ok (.value v) w)(h:wpX P S ob dx lo K r2 r F (a.put o.dst v) w):wpX P S ob dx lo K r2 ((1,o):: r) F a w:=⟨v,⟨b,c⟩,h⟩
theorem x_load_mid(j:o.guard=none)(f:TypeId)(y:Operand)(l:o.op=.load f y)(b c:Nat)(p:a.eval y=.pointer (some (zA b c)))(cs:List Value)(d:TypeDesc)(i:∀w,S w->w.rangeAt b c cs)(m:P.underlying f=some d)(hd:d.isRow=true)(k:(P.info? f).map (·.size)=some cs.length)(h:wpX P S ob dx lo K r2 r F (a.put o.dst (.agg cs.toArray)) w):wpX P S ob dx lo K r2 ((0,o):: r) F a w:=by refine x_val j (fun W hW=>?_) h;unfold execOp;simp only[l,p,Instr.loadAt,Instr.sureAddr,Sem.run_bind,Sem.run_pure,Result.andThen_ok,run_loadVar_mid W b c f cs d (i W hW) m hd k]
theorem x_call{f:FuncId}{args:Array Value}(c:o.guard=none)(d:∀W,(execOp a.eval o).run P W=.ok (.enter f args) W)(h:∀W,zB w W->S W->Calls P f args W fun e w'=>∃u,e=.returned u/\S w'/\zB W w'/\wpX P S ob dx lo K r2 r (fun b=>F b\/(W.heap.size<=b/\b<w'.heap.size)) (a.put o.dst u) w'):wpX P S ob dx lo K r2 ((2,o):: r) F a w:=
 ⟨c,fun W hb hS=>.inl ⟨f,args,d W,h W hb hS⟩⟩
end
def Region.apartB(ops:Array Oper)(x k:Nat):Bool:=match ops[x]?,ops[k]? with|some ox,some ok=>ox.apart ops ok|_,_=>false
def Region.mixXt(md:Region.Mode)(ops:Array Oper)(n g s x:Nat)(ord2:List (Nat × Nat)):List (Nat × Nat)->Array Bool->Bool
 |[],listed=>Region.mixFB md ops n g s ord2 listed
 |(0,k):: r,listed=>(Region.ready md ops listed).contains k && Region.free md ops listed k && decide (k<n) && decide (k≠s) && Region.waitsFor md ops s k && Region.apartB ops x k && Region.mixXt md ops n g s x ord2 r (listed.setIfInBounds k true)
 |(1,k):: r,listed=>(Region.ready md ops listed).contains k && Region.free md ops listed k && decide (k<n) && decide (k≠s) && Region.apartB ops x k && Region.mixXt md ops n g s x ord2 r (listed.setIfInBounds k true)
 |(_,k):: r,listed=>decide (Region.ready md ops listed=[k]) && decide (k<n) && decide (k≠s) && Region.apartB ops x k && Region.mixXt md ops n g s x ord2 r (listed.setIfInBounds k true)
def Region.mixXf(md:Region.Mode)(ops:Array Oper)(n g s x:Nat)(ord2:List (Nat × Nat)):List (Nat × Nat)->Array Bool->Bool
 |[],listed=>decide (Region.ready md ops listed=[x]) && Region.mixXt md ops n g s x ord2 [] (listed.setIfInBounds x true)
 |(0,k):: r,listed=>(Region.ready md ops listed).contains k && Region.free md ops listed k && decide (k<n) && decide (k≠s) && Region.waitsFor md ops s k && Region.mixXf md ops n g s x ord2 r (listed.setIfInBounds k true)
 |(1,k):: r,listed=>(Region.ready md ops listed).contains k && Region.free md ops listed k && decide (k<n) && decide (k≠s) && Region.mixXf md ops n g s x ord2 r (listed.setIfInBounds k true)
 |(t,k):: r,listed=>decide (Region.ready md ops listed=[k,x]) && decide (k<n) && decide (k≠s) && Region.mixXf md ops n g s x ord2 r (listed.setIfInBounds k true) && Region.mixXt md ops n g s x ord2 ((t,k):: r) (listed.setIfInBounds x true)
theorem qeM{k:Nat}{ok:Oper}(c:ops[x]?=some ox)(b:ops[k]?=some ok)(h:Region.apartB ops x k=true):ox.apart ops ok=true:=by unfold Region.apartB at h;simp only[c,b] at h;exact h
theorem qdX{l:List Oper}{d:Oper}{Lq:Act->Wo->Prop}(U:ops=l.toArray)(R:Region.noSelect ops=true)(Z:Region.sinkB md ops n=true)(X:Region.chainB md ops n=true)(T:n<ops.size)(V:∀ c (a:Act) (dst:Option Tmp) v w,Q (.panic c) (a.put dst v) w->Q (.panic c) a w)(hx:ops[x]?=some ox)(O:List (Nat × Nat)):
 ∀(ord:List (Nat × Nat))(listed:Array Bool)(F:Nat->Prop)(a:Act)(w W:Wo)(b:Nat),HeadInv md ops n listed->Region.mixXt md ops n g s x O ord listed=true->listed.getD s false=false->wpX P S ob ox.dst lo Lq (O.map fun y=>(y.1,l.getD y.2 d)) (ord.map fun y=>(y.1,l.getD y.2 d)) F a w->
  zB w W->S W->lo<=b->¬F b->W.heap[b]?=some ob->
  wpAnyHF P md ops Q S n s (fun listed' a' w'=>Region.seqB md ops g n listed'=true/\Lq a' w') (ord.length+O.length) listed (a.put ox.dst (ptrTo b)) W
 |[],listed,F,a,w,W,b,inv,hB,hls,h,hW,hS,hlo,hF,hb=>by
   rw[List.length_nil,Nat.zero_add]
   exact qbP U R Z X T V O listed _ W inv hB (fun _=>hS) (h W b hW hS hlo hF hb)
 | (0,k) :: r,listed,F,a,w,W,b,inv,hB,hls,h,hW,hS,hlo,hF,hb => by
   simp only[Region.mixXt,Bool.and_eq_true,decide_eq_true_eq] at hB
   obtain⟨⟨⟨⟨⟨⟨hr,hf⟩,hkn⟩,hks⟩,hw⟩,hap⟩,hB'⟩:=hB
   have o:k∈Region.ready md ops listed:=by simpa using hr
   obtain⟨v,⟨H,L⟩,J⟩:=h
   have i:=qcV (d:=d) U hkn T
   obtain⟨E,D,N⟩:=Oper.apart_spec (qeM hx i hap)
   have C:∀w,S w->(execOp (a.put ox.dst (ptrTo b)).eval (l.getD k d)).run P w=.ok (.value v) w:=fun w hw=>by
    rw[execOp_put (l.getD k d) (fun cs b=>Region.noSelect_spec R k _ cs b i) a ox.dst (ptrTo b) E]
    exact L w hw
   rw[List.length_cons,show r.length+1+O.length=(r.length+O.length)+1 by omega]
   refine qbR i (Region.noSelect_spec R) Z X T hkn hks (fun listed' a' w' hL=>seqB_ready hL.1) (fun c a w=>V c a _ v w) S (.inr ⟨fun _ h=>h,.inl hw⟩) _ listed _ W inv (Region.free_spec i hf) o (.inl ⟨qaX H _,C⟩) hS (fun _=>hS) ?_
   rw[Act.put_comm a (ptrTo b) v D]
   exact qdX U R Z X T V hx O r _ F _ w W b (inv.set o hkn) hB' (by rwa [qaQ hks]) J hW hS hlo hF hb
 | (1,k) :: r,listed,F,a,w,W,b,inv,hB,hls,h,hW,hS,hlo,hF,hb => by
   simp only[Region.mixXt,Bool.and_eq_true,decide_eq_true_eq] at hB
   obtain⟨⟨⟨⟨⟨hr,hf⟩,hkn⟩,hks⟩,hap⟩,hB'⟩:=hB
   have o:k∈Region.ready md ops listed:=by simpa using hr
   obtain⟨v,⟨H,L⟩,J⟩:=h
   have i:=qcV (d:=d) U hkn T
   obtain⟨E,D,N⟩:=Oper.apart_spec (qeM hx i hap)
   have C:∀w,True->(execOp (a.put ox.dst (ptrTo b)).eval (l.getD k d)).run P w=.ok (.value v) w:=fun w _=>by
    rw[execOp_put (l.getD k d) (fun cs b=>Region.noSelect_spec R k _ cs b i) a ox.dst (ptrTo b) E]
    exact L w
   rw[List.length_cons,show r.length+1+O.length=(r.length+O.length)+1 by omega]
   refine qbR i (Region.noSelect_spec R) Z X T hkn hks (fun listed' a' w' hL=>seqB_ready hL.1) (fun c a w=>V c a _ v w) (fun _=>True) (.inl fun _=>trivial) _ listed _ W inv (Region.free_spec i hf) o (.inl ⟨qaX H _,C⟩) trivial (fun _=>hS) ?_
   rw[Act.put_comm a (ptrTo b) v D]
   exact qdX U R Z X T V hx O r _ F _ w W b (inv.set o hkn) hB' (by rwa [qaQ hks]) J hW hS hlo hF hb
 | (t + 2,k) :: r,listed,F,a,w,W,b,inv,hB,hls,h,hW,hS,hlo,hF,hb => by
   simp only[Region.mixXt,Bool.and_eq_true,decide_eq_true_eq] at hB
   obtain⟨⟨⟨⟨hr,hkn⟩,hks⟩,hap⟩,hB'⟩:=hB
   obtain⟨H,B⟩:=h
   have i:=qcV (d:=d) U hkn T
   obtain⟨E,D,N⟩:=Oper.apart_spec (qeM hx i hap)
   rw[List.length_cons,show r.length+1+O.length=(r.length+O.length)+1 by omega]
   refine⟨fun h0=>(by rw[hr] at h0;cases h0),fun j hj=>?_⟩
   have I:=hj
   rw[hr] at hj
   have K:j=k:=by simpa using hj
   subst K
   refine⟨hkn,?_⟩
   unfold wpOp
   simp only[i]
   rw[if_pos (qaX H _)]
   refine .inl ?_
   unfold Oper.wp
   rw[execOp_put (l.getD j d) (fun cs b=>Region.noSelect_spec R j _ cs b i) a ox.dst (ptrTo b) E]
   rcases B W hW hS with⟨f,M,p,A⟩|⟨u,w',p,m,q,hr⟩
   . rw [p]
     exact A.mono fun e w' ⟨u,he,m,q,hr⟩=>by
      subst he
      have z:=(Array.getElem?_eq_some_iff.1 hb).1
      refine⟨fun _=>m,?_⟩
      show wpAnyHF P md ops Q S n s _ _ _ ((a.put ox.dst (ptrTo b)).put (l.getD j d).dst u) w'
      rw[Act.put_comm a (ptrTo b) u D]
      exact qdX U R Z X T V hx O r _ _ _ w' w' b (inv.set I hkn) hB' (by rwa [qaQ hks]) hr zV m hlo (fun h=>h.elim hF (fun h=>U0)) ((q.block b z).trans hb)
   . rw[p]
     have z:=(Array.getElem?_eq_some_iff.1 hb).1
     refine⟨fun _=>m,?_⟩
     show wpAnyHF P md ops Q S n s _ _ _ ((a.put ox.dst (ptrTo b)).put (l.getD j d).dst u) w'
     rw[Act.put_comm a (ptrTo b) u D]
     exact qdX U R Z X T V hx O r _ _ _ w' w' b (inv.set I hkn) hB' (by rwa [qaQ hks]) hr zV m hlo (fun h=>h.elim hF (fun h=>U0)) ((q.block b z).trans hb)
theorem qdV{l:List Oper}{d:Oper}{Lq:Act->Wo->Prop}(hl:ops=l.toArray)(T:Region.noSelect ops=true)(hs:Region.sinkB md ops n=true)(hc:Region.chainB md ops n=true)(hn:n<ops.size)(hQ:∀ c (a:Act) (dst:Option Tmp) v w,Q (.panic c) (a.put dst v) w->Q (.panic c) a w)(hx:ops[x]?=some ox)(V:x<n)(Z:x≠s)(W:ox.guard=none)(X:∀ (a:Act)(w:Wo),(execOp a.eval ox).run P w=.ok (.value (ptrTo w.heap.size)) (w.alloc ob))(U:∀ w,S w->S (w.alloc ob))(R:List (Nat × Nat)):
 ∀(ord:List (Nat × Nat))(listed:Array Bool)(F:Nat->Prop)(a:Act)(w:Wo),HeadInv md ops n listed->Region.mixXf md ops n g s x R ord listed=true->listed.getD s false=false->wpX P S ob ox.dst lo Lq (R.map fun y=>(y.1,l.getD y.2 d)) (ord.map fun y=>(y.1,l.getD y.2 d)) F a w->S w->lo<=w.heap.size->(∀b,F b->b<w.heap.size)->
  wpAnyHF P md ops Q S n s (fun listed' a' w'=>Region.seqB md ops g n listed'=true/\Lq a' w') (ord.length+R.length+1) listed a w
 |[],listed,F,a,w,inv,hB,hls,h,hS,hlo,hF=>by
   simp only[Region.mixXf,Bool.and_eq_true,decide_eq_true_eq] at hB
   obtain⟨hr,hB'⟩:=hB
   refine⟨fun h0=>(by rw[hr] at h0;cases h0),fun j hj=>?_⟩
   have q:=hj
   rw[hr] at hj
   have z:j=x:=by simpa using hj
   subst z
   refine⟨V,?_⟩
   unfold wpOp
   simp only[hx]
   rw[if_pos (qaX W _)]
   refine .inl ?_
   unfold Oper.wp
   rw[X]
   exact⟨fun _=>U w hS,qdX (ob:=ob) hl T hs hc hn hQ hx R [] _ F a w (w.alloc ob) w.heap.size (inv.set q V) hB' (by rwa [qaQ Z]) h (zV.alloc zn _) (U w hS) hlo (fun h=>by have:=hF _ h;omega) (heap_alloc_new _ _)⟩
 |(0,k):: r,listed,F,a,w,inv,hB,hls,h,hS,hlo,hF=>by
   simp only[Region.mixXf,Bool.and_eq_true,decide_eq_true_eq] at hB
   obtain⟨⟨⟨⟨⟨hr,K⟩,i⟩,m⟩,O⟩,hB'⟩:=hB
   have A:k∈Region.ready md ops listed:=by simpa using hr
   obtain⟨v,⟨H,M⟩,J⟩:=h
   have D:=qcV (d:=d) hl i hn
   rw[List.length_cons,show r.length+1+R.length+1=(r.length+R.length+1)+1 by omega]
   refine qbR D (Region.noSelect_spec T) hs hc hn i m (fun listed' a' w' hL=>seqB_ready hL.1) (fun c a w=>hQ c a _ v w) S (.inr ⟨fun _ h=>h,.inl O⟩) _ listed _ w inv (Region.free_spec D K) A (.inl ⟨qaX H _,M⟩) hS (fun _=>hS) ?_
   exact qdV hl T hs hc hn hQ hx V Z W X U R r _ F _ w (inv.set A i) hB' (by rwa [qaQ m]) J hS hlo hF
 |(1,k):: r,listed,F,a,w,inv,hB,hls,h,hS,hlo,hF=>by
   simp only[Region.mixXf,Bool.and_eq_true,decide_eq_true_eq] at hB
   obtain⟨⟨⟨⟨hr,K⟩,i⟩,m⟩,hB'⟩:=hB
   have A:k∈Region.ready md ops listed:=by simpa using hr
   obtain⟨v,⟨H,M⟩,J⟩:=h
   have D:=qcV (d:=d) hl i hn
   rw[List.length_cons,show r.length+1+R.length+1=(r.length+R.length+1)+1 by omega]
   refine qbR D (Region.noSelect_spec T) hs hc hn i m (fun listed' a' w' hL=>seqB_ready hL.1) (fun c a w=>hQ c a _ v w) (fun _=>True) (.inl fun _=>trivial) _ listed _ w inv (Region.free_spec D K) A (.inl ⟨qaX H _,fun w _=>M w⟩) trivial (fun _=>hS) ?_
   exact qdV hl T hs hc hn hQ hx V Z W X U R r _ F _ w (inv.set A i) hB' (by rwa [qaQ m]) J hS hlo hF
 | (t + 2,k) :: r,listed,F,a,w,inv,hB,hls,h,hS,hlo,hF => by
   simp only[Region.mixXf,Bool.and_eq_true,decide_eq_true_eq] at hB
   obtain⟨⟨⟨⟨hr,i⟩,m⟩,hB'⟩,I⟩:=hB
   have D:=qcV (d:=d) hl i hn
   rw[List.length_cons,show r.length+1+R.length+1=(r.length+R.length+1)+1 by omega]
   refine⟨fun h0=>(by rw[hr] at h0;cases h0),fun j hj=>?_⟩
   have q:=hj
   rw[hr] at hj
   rcases List.mem_cons.1 hj with z|z
   . subst z
     refine⟨i,?_⟩
     obtain⟨H,E⟩:=h
     unfold wpOp
     simp only[D]
     rw[if_pos (qaX H _)]
     refine .inl ?_
     unfold Oper.wp
     rcases E w zV hS with⟨f,N,B,C⟩|⟨u,w',B,o,p,hr⟩
     . rw [B]
       exact C.mono fun e w' ⟨u,he,o,p,hr⟩=>by
        subst he
        exact⟨fun _=>o,qdV hl T hs hc hn hQ hx V Z W X U R r _ _ _ w' (inv.set q i) hB' (by rwa [qaQ m]) hr o (Nat.le_trans hlo p.size) (fun b hb=>hb.elim (fun h=>Nat.lt_of_lt_of_le (hF b h) p.size) (fun h=>h.2))⟩
     . rw[B]
       exact⟨fun _=>o,qdV hl T hs hc hn hQ hx V Z W X U R r _ _ _ w' (inv.set q i) hB' (by rwa [qaQ m]) hr o (Nat.le_trans hlo p.size) (fun b hb=>hb.elim (fun h=>Nat.lt_of_lt_of_le (hF b h) p.size) (fun h=>h.2))⟩
   . have L : j = x:=by simpa using z
     subst L
     refine⟨V,?_⟩
     unfold wpOp
     simp only[hx]
     rw[if_pos (qaX W _)]
     refine .inl ?_
     unfold Oper.wp
     rw[X]
     refine⟨fun _=>U w hS,?_⟩
     have:=qdX (ob:=ob) (Q:=Q) (g:=g) hl T hs hc hn hQ hx R ((t+2,k):: r) _ F a w (w.alloc ob) w.heap.size (inv.set q V) I (by rwa [qaQ Z]) h (zV.alloc zn _) (U w hS) hlo (fun h=>by have:=hF _ h;omega) (heap_alloc_new _ _)
     rw[List.length_cons,show r.length+1+R.length=r.length+R.length+1 by omega] at this
     exact this
def Region.mixXTailB(md:Region.Mode)(ops:Array Oper)(n s x:Nat)(ord ord2:List (Nat × Nat)):Bool:=
 Region.noSelect ops && decide (n<ops.size) && Region.sinkB md ops n && Region.chainB md ops n && decide (ord.length+ord2.length+1=n) && decide (x<n) && decide (x≠s) && Region.mixXf md ops n (ops.size-n) s x ord2 ord (Array.replicate ops.size false)
theorem wp_region_mixx{M:Nat}{a:Act}{w:Wo}{l:List Oper}(n s x:Nat)(S:Wo->Prop)(z u:List (Nat × Nat))(d:Oper)(ox:Oper)(ob:Obj)(J:P.follows .mixedOrders=true)(D:Region.mixXTailB .any l.toArray n s x z u=true)(E:∀c (a:Act) (dst:Option Tmp) v w,Q (.panic c) (a.put dst v) w->Q (.panic c) a w)(L:l.toArray[x]?=some ox)(B:ox.guard=none)(C:∀(a:Act)(w:Wo),(execOp a.eval ox).run P w=.ok (.value (ptrTo w.heap.size)) (w.alloc ob))(A:∀w,S w->S (w.alloc ob))(I:S w.drew)(h:wpX P S ob ox.dst w.heap.size (wpList P l.toArray Q (l.drop n)) (u.map fun y=>(y.1,l.getD y.2 d)) (z.map fun y=>(y.1,l.getD y.2 d)) (fun _=>False) a w.drew):(Code.region M l.toArray true).wp P Q a w:=by
 simp only[Region.mixXTailB,Bool.and_eq_true,decide_eq_true_eq] at D;obtain⟨⟨⟨⟨⟨⟨⟨f,q⟩,r⟩,p⟩,k⟩,m⟩,o⟩,b⟩:=D
 have i:HeadInv .any l.toArray n (Array.replicate l.toArray.size false):=
  ⟨U2,fun j oj _ hl=>(by rw[getD_replicate_false] at hl;cases hl),fun t _ ht=>getD_in (by simpa using ht) (getD_replicate_false _ _)⟩
 have H:=qdV (P:=P) (Q:=Q) (md:=.any) (g:=l.toArray.size-n) rfl f r p q E L m o B C A u z _ (fun _=>False) a w.drew i b (getD_replicate_false _ _) h I zn (fun _ h=>h.elim);refine wp_region_any J ?_
 have:=qeK (g:=l.toArray.size-n) (fun listed' a' w' hL=>by
  have:=wpAny_of_seq (P:=P) (md:=.any) (Q':=Q) (l.drop n) n listed' a' w' (fun j=>by simp[List.getElem?_drop]) (by simpa using hL.1) hL.2
  simpa using this) _ _ a w.drew H
 rw[k,show n+(l.toArray.size-n)=l.toArray.size by omega] at this;exact this
end
end Go.Proofs.YtkcdlealipfnbaaGreat
namespace Go.Proofs.YtkcdlealipfnbaaGreat
open Go.RowKit Pln Go.Proofs.Tryz
def Far(l bo Ba b:Nat):Prop:=b≠l/\b≠bo/\b≠Ba
def SameBut(l bo Ba:Nat)(W W':Wo):Prop:=W.heap.size<=W'.heap.size/\∀b,b<W.heap.size->Far l bo Ba b->W'.heap[b]?=W.heap[b]?
section
variable {l bo Ba:Nat} {W W' W'':Wo}
theorem SameBut.refl:SameBut l bo Ba W W:=⟨Nat.le_refl _,fun _ _ _=>rfl⟩
theorem SameBut.trans(h:SameBut l bo Ba W W')(c:SameBut l bo Ba W' W''):SameBut l bo Ba W W'':=
 ⟨Nat.le_trans h.1 c.1,fun b hb hf=>(c.2 b (Nat.lt_of_lt_of_le hb h.1) hf).trans (h.2 b hb hf)⟩
theorem SameBut.of_below(h:zB W W'):SameBut l bo Ba W W':=⟨h.size,fun b hb _=>h.block b hb⟩
theorem SameBut.drew:SameBut l bo Ba W W.drew:=⟨Nat.le_refl _,fun _ _ _=>rfl⟩
theorem SameBut.set(u:Value):SameBut l bo Ba W (W.setCell (zA Ba 0) u):=⟨U2,fun b _ hf=>Below.heap_setCell W (zA Ba 0) u b hf.2.2⟩
theorem SameBut.cell(h:SameBut l bo Ba W W'){p:Addr}(c:Far l bo Ba p.block){v:Value}(b:W.cell? p=some v):W'.cell? p=some v:=
 (World.cell?_of_block (h.2 p.block (World.block_lt_of_cell? W _ b) c)).trans b
theorem SameBut.range(h:SameBut l bo Ba W W'){b o:Nat}{cs:List Value}(d:Far l bo Ba b)(c:W.rangeAt b o cs):W'.rangeAt b o cs:=fun j v hv=>h.cell (p:=(zA b (o+j))) d (c j v hv)
theorem SameBut.ints(h:SameBut l bo Ba W W'){b o:Nat}{zs:LI}(m:Far l bo Ba b)(k:zI W (some (zA b o)) zs):zI W' (some (zA b o)) zs:=fun hz=>by
 obtain⟨g,i,c,d,f⟩:=k hz
 injection c with c
 injection c with e1 e2
 subst e1
 subst e2
 exact⟨b,o,rfl,Nat.lt_of_lt_of_le d h.1,fun j hjl=>h.cell (p:=(zA b (o+j))) m (f j hjl)⟩
end
def lT:LN:=genM (mulM 2 1 (mdOf 1 [])) (2^1)
def GFFar(l bo Ba gb:Nat)(W:Wo):Prop:=
 Far l bo Ba gb/\gb<W.heap.size/\∃(A3:OA)(n3 c3 ge ce gl cl:Nat),Far l bo Ba ge/\Far l bo Ba gl/\W.heap[gb]?=some (Co 2 1 A3 n3 c3 ((2^1:Nat):Int) ge lT.length ce gl (logL lT (2^1)).length cl)/\
  zI W (zO ge) (nz lT)/\zI W (zO gl) (nz (logL lT (2^1)))
theorem GFFar.same{l bo Ba gb:Nat}{W W':Wo}(h:GFFar l bo Ba gb W)(s:SameBut l bo Ba W W'):GFFar l bo Ba gb W':=by obtain⟨d,f,g,r,i,m,j,n,k,b,c,o,p,q⟩:=h;exact⟨d,Nat.lt_of_lt_of_le f s.1,g,r,i,m,j,n,k,b,c,(s.2 gb f d).trans o,s.ints b p,s.ints c q⟩
theorem GFFar.at_{l bo Ba gb:Nat}{W:Wo}(h:GFFar l bo Ba gb W):GFAt W W.heap.size gb 2 1 lT (logL lT (2^1)):=by obtain⟨_,n,b,o,c,g,d,i,f,_,_,j,k,m⟩:=h;exact⟨n,b,o,c,g,d,i,f,j,k,m⟩
structure WkS (l bo Ba Bc By Bg Bf gb G:Nat) (lb:Array Value) (k:Nat) (W:Wo):Prop where
 fc:Far l bo Ba Bc
 code:W.rangeAt Bc 0 (Cb 2 1 3 G 1 1)
 gen:Far l bo Ba G/\∃R ro cr,Far l bo Ba R/\W.cell? (zA G 0)=some (zL (some (zA R ro)) 3 cr)/\∀j,j<3->W.cell? (zA R (ro+j))=some (Y 1)
 cnt:W.heap[Ba]?=some (.cells #[Y (k:Int)] 3 (0,0))
 yld:Far l bo Ba By/\W.cell? (zA By 0)=some (.func (.yield l) #[] #[])
 gee:Far l bo Ba Bg/\W.cell? (zA Bg 0)=some (zP gb)
 frm:Far l bo Ba Bf/\W.cell? (zA Bf 0)=some (.func (.func 168) #[] lb)
 gf:GFFar l bo Ba gb W
section
variable {l bo Ba Bc By Bg Bf gb G k:Nat} {lb:Array Value} {W W':Wo}
theorem WkS.same(h:WkS l bo Ba Bc By Bg Bf gb G lb k W)(m:SameBut l bo Ba W W'){n:Nat}(o:W'.heap[Ba]?=some (.cells #[Y (n:Int)] 3 (0,0))):WkS l bo Ba Bc By Bg Bf gb G lb n W':=by obtain⟨b,R,i,d,c,f,g⟩:=h.gen;exact⟨h.fc,m.range h.fc h.code,⟨b,R,i,d,c,m.cell b f,fun j hj=>m.cell c (g j hj)⟩,o,⟨h.yld.1,m.cell h.yld.1 h.yld.2⟩,⟨h.gee.1,m.cell h.gee.1 h.gee.2⟩,⟨h.frm.1,m.cell h.frm.1 h.frm.2⟩,h.gf.same m⟩
theorem WkS.lt(h:WkS l bo Ba Bc By Bg Bf gb G lb k W):Ba<W.heap.size:=(Array.getElem?_eq_some_iff.1 h.cnt).1
theorem WkS.grow(h:WkS l bo Ba Bc By Bg Bf gb G lb k W)(b:zB W W'):WkS l bo Ba Bc By Bg Bf gb G lb k W':=h.same (.of_below b) ((b.block Ba h.lt).trans h.cnt)
theorem WkS.set(h:WkS l bo Ba Bc By Bg Bf gb G lb k W)(b:Nat):WkS l bo Ba Bc By Bg Bf gb G lb b (W.setCell (zA Ba 0) (Y (b:Int))):=h.same (.set _) (heap_set_same h.cnt 0 _)
end
def RndOk(l bo:Nat)(J:Nat->Wo->Prop)(k:Nat)(W:Wo)(e:Ending)(W':Wo):Prop:=e=.returned (.bool true)/\J (k+1) W'/\W.heap.size<=W'.heap.size/\∀b,b<W.heap.size->b≠l->b≠bo->W'.heap[b]?=W.heap[b]?
def RndsOk(l bo Bz:Nat)(J:Nat->Wo->Prop):Prop:=
 ∀(k g c:Nat)(W:Wo),k<2->J k W->Bz<=W.heap.size->Row W Bz g c (nz (List.replicate 3 k))->YieldAt Fence.wide 0 prog l (Cp k g 3 c) W (RndOk l bo J k W)
def FromOk(l bo Ba Bc By Bg Bf gb G:Nat)(lb:Array Value)(J:Nat->Wo->Prop)(k:Nat)(W:Wo)(e:Ending)(W':Wo):Prop:=
 e=.returned (.bool true)/\WkS l bo Ba Bc By Bg Bf gb G lb k W'/\J k W'/\SameBut l bo Ba W W'
theorem from1_c(l bo Ba Bc By Bg Bf gb G Bz:Nat)(lb:Array Value)(J:Nat->Wo->Prop)(hJ:∀j A B,J j A->Below Bz A B->J j B)(hz:Bz<=Ba)(ab:Ba≠l)(ac:Ba≠bo)(hY:RndsOk l bo Bz J)(k:Nat)(hk:k<2)(bw ow cw:Nat)(ad:Far l bo Ba bw)(W:Wo)(hS:WkS l bo Ba Bc By Bg Bf gb G lb k W)(h0:J k W)(hA:zI W (some (zA bw ow)) (nz (List.replicate 3 k))):
 zC 168 (Ce 1 (some (zA bw ow)) 3 cw Bc Ba By Bg Bf) W (FromOk l bo Ba Bc By Bg Bf gb G lb J (k+1) W):=by
 obtain⟨i,M⟩:∃i,zK (i=k+1):=⟨_,rfl⟩;rw[<- M.o];have S:(i:Int)=(k:Int)+1:=by have:=M.o;omega
 have s:=zH hS;have X:=zH hY;have K:=zH hJ;have aa:IntKind.i64.wrap ((i:Int)-1)=(k:Int):=by rw[IntWalk.i64_in _ U0];omega
 have c4:W.cell? (zA Bc 4)=some (zS G 1 1):=s.o.code 4 _ rfl;have ca:W.cell? (zA Ba 0)=some (Y (k:Int)):=cell_of_row _ _ 0 _ _ _ s.o.cnt;have fa:W.frozen? (zA Ba 0)=false:=by simp[World.frozen?,s.o.cnt]
 have d:=zH (s.o.set i);have q:=zH (K.o k W _ h0 ((Below.refl Bz W).setCell (p:=(zA Ba 0)) hz (Y (i:Int))));rw[S] at d q;have m:zK (SameBut l bo Ba W (W.setCell (zA Ba 0) (Y ((k:Int)+1)))):=SameBut.set _;have t:=zH (m.o.ints ad hA);have D:zK (Bz<=(W.setCell (zA Ba 0) (Y ((k:Int)+1))).heap.size):=by show _<=_;have:=s.o.lt;simp;omega
 clear hS hY hJ h0 hA;refine(callsIn_wide (n:=0)).1 ?_;refine callsIn_of_wp func168 rfl trivial ?_;simp only[ntmps168,List.size_toArray,List.length_cons,List.length_nil,Nat.reduceAdd,Nat.reduceSub,Array.replicate_succ,Array.replicate_zero,List.push_toArray,List.append_toArray,List.nil_append,List.cons_append];clear S;repeat(first|go_values|gi_guarded|gi_step|gi_upon)
 generalize W.setCell (zA Ba 0) (Y ((k:Int)+1))=r at *;clear c4 ca fa s;refine qdK 5 5 (WkS l bo Ba Bc By Bg Bf gb G lb i) [(0,0),(0,1),(1,2),(1,3),(2,4)] default noBar_wide U1 U1 U1 (d.o.same SameBut.drew d.o.cnt) ?_;have x:=zH (K.o _ r r.drew q.o (Below.refl Bz r).drew);have u:=zH<|m.o.trans .drew
 have h:zK (Bz<=r.drew.heap.size):=D.o;have H:=zH (sclone_c (nz (List.replicate 3 k)) (some (zA bw ow)) cw r.drew (t.o.grow zn (Below.refl _ r).drew) (by rw[qaA,List.length_replicate];omega) (by rw[qaA,List.length_replicate];omega));have z:zK ((nz (List.replicate 3 k)).length=3):=by show _=_;rw[qaA,List.length_replicate]
 rw[z.o] at H;have C:=zH<|d.o.same SameBut.drew d.o.cnt
 clear q m D t d;generalize r.drew=Wd at *;simp only[List.map_cons,List.map_nil,List.getD_cons_zero,List.getD_cons_succ];apply qbF rfl
 . intro V Q;have y:=Q.yld.2;go_simp;rfl
 go_simp;apply qbF rfl
 . intro V Q;have y:V.cell? (zA Ba 0)=some (Y (i:Int)):=cell_of_row _ _ 0 _ _ _ Q.cnt;go_simp;rfl
 go_simp;apply qaM rfl
 . intro V;go_simp;rfl
 go_simp;apply qaM rfl
 . intro V;go_simp;rfl
 go_simp;apply qbE rfl
 . go_simp;exact⟨rfl,rfl⟩
 with_reducible refine H.o.mono ?_
 rintro e P ⟨⟨g,c,rfl,hrow⟩,hb2⟩;have f:=zH (C.o.grow hb2);have L:=zH (K.o _ Wd P x.o (hb2.mono h.o));have I:=zH<|u.o.trans (.of_below hb2)
 have O:=zH<|Nat.le_trans h.o hb2.size
 have N:=zH (hrow.base (Nat.le_trans h.o hrow.lt.1));refine⟨_,rfl,f.o,?_⟩;go_simp;refine qbH ?_;show wpListIn _ _ _ _ _ _ _ _;clear hrow hb2 C x u h H;obtain⟨fn,U,E,R,hy,T⟩:=X.o k g c P hk L.o O.o N.o;gi_wp2_with ((try refine⟨rfl,?_⟩);refine T.mono ?_;clear T;rintro e Z ⟨rfl,hJ3,hsz3,hsm3⟩);go_ret;have v:SameBut l bo Ba P Z:=⟨hsz3,fun b hb hf=>hsm3 b hb hf.1 hf.2.1⟩;exact⟨rfl,f.o.same v ((hsm3 Ba f.o.lt ab ac).trans f.o.cnt),M.o ▸ hJ3,I.o.trans v⟩
theorem gorder_e(gb B p m:Nat)(l d:LN)(w:Wo)(c:GFAt w B gb p m l d):
 zC 120 #[zP gb] w fun e w'=>e=.returned (Y ((p^m:Nat):Int))/\w=w':=by obtain⟨_,_,_,_,_,_,_,_,b,_,_,_,_⟩:=c.cells;generalize p^m=q at *;clear c;go_enter func120,ntmps120;go_wp2;go_ret;exact⟨rfl,rfl⟩
end Go.Proofs.YtkcdlealipfnbaaGreat
namespace Go.Proofs.YtkcdlealipfnbaaGreat
open Go.RowKit Go.Proofs.Tryz
structure StD where
 rule:Int
 p:Int
 m:Int
 mod:LI
 n:Int
 gen:List LI
 low:Int
 frm:LI
 at_:LI
 bp:Int
 bm:Int
 bmod:Nat
 r0:Int
 r1:Int
 r2:Int
 r3:Int
 r4:Int
 points:Nat
 mults:Nat
 perm:Nat
 scale:Nat
 frob:Int
 sets:List LI
def StD.ok(d:StD):Prop:=
 d.mod.length<=maxLen/\d.gen.length<=maxLen/\d.frm.length<=maxLen/\d.at_.length<=maxLen/\d.bmod<=maxLen/\d.points<=maxLen/\d.mults<=maxLen/\d.perm<=maxLen/\d.scale<=maxLen/\d.sets.length<=maxLen
def stCells(d:StD)(Am Ag Af Aa Ab Ap Aq Ar As At:OA)(cm cg cf ca cb cp cq cr cs ct:Nat):List Value :=
 [Y d.rule,Y d.p,Y d.m,zL Am d.mod.length cm,Y d.n,zL Ag d.gen.length cg,Y d.low,zL Af d.frm.length cf,zL Aa d.at_.length ca,
   Y d.bp,Y d.bm,zL Ab d.bmod cb,Y d.r0,Y d.r1,Y d.r2,Y d.r3,Y d.r4,zL Ap d.points cp,zL Aq d.mults cq,zL Ar d.perm cr,zL As d.scale cs,Y d.frob,zL At d.sets.length ct]
def StC(w:Wo)(B:Nat)(d:StD)(cs:List Value):Prop:=
 ∃(Am Ag Af Aa Ab Ap Aq Ar As At:OA)(cm cg cf ca cb cp cq cr cs' ct:Nat),cs=stCells d Am Ag Af Aa Ab Ap Aq Ar As At cm cg cf ca cb cp cq cr cs' ct/\d.gen.length<=cg/\
  IntsAt w B Am d.mod/\RowsAt w B Ag d.gen/\IntsAt w B Af d.frm/\IntsAt w B Aa d.at_/\RowsAt w B At d.sets
def StsAt(w:Wo)(B:Nat)(A:OA)(ds:List StD):Prop:=
 0<ds.length->∃b o,A=some (zA b o)/\b<B/\∀i d,ds[i]?=some d->∃cs,w.rangeAt b (o+i*23) cs/\StC w B d cs
theorem StC.len{w:Wo}{B:Nat}{d:StD}{cs:List Value}(h:StC w B d cs):cs.length=23:=by obtain⟨_,_,_,_,_,_,_,_,_,_,_,_,_,_,_,_,_,_,_,_,rfl,_⟩:=h;rfl
theorem StC.one{w:Wo}{B:Nat}{d:StD}{cs:List Value}(h:StC w B d cs):∀v∈cs,v.oneCell'=true:=by obtain⟨_,_,_,_,_,_,_,_,_,_,_,_,_,_,_,_,_,_,_,_,rfl,_⟩:=h;unfold stCells;simp only[List.mem_cons,List.not_mem_nil,or_false,forall_eq_or_imp,forall_eq];simp[Value.oneCell']
theorem StC.keep{w w':Wo}{B:Nat}{d:StD}{cs:List Value}(h:StC w B d cs)(A:Below B w w'):StC w' B d cs:=by obtain⟨j,i,g,c,f,k,l,Ar,m,At,p,o,n,ca,cb,cp,q,r,b,s,e,z,t,u,v,x,y⟩:=h;exact⟨j,i,g,c,f,k,l,Ar,m,At,p,o,n,ca,cb,cp,q,r,b,s,e,z,t.keep A,u.keep A,v.keep A,x.keep A,y.keep A⟩
theorem StsAt.keep{w w':Wo}{B:Nat}{A:OA}{m:List StD}(h:StsAt w B A m)(n:Below B w w'):StsAt w' B A m:=fun hz=>by
 obtain⟨b,o,e,c,l⟩:=h hz
 refine⟨b,o,e,c,fun i d hd=>?_⟩
 obtain⟨f,g,k⟩:=l i d hd
 exact⟨f,fun j v hv=>(n.cell (p:=(zA b (o+i*23+j))) c).trans (g j v hv),k.keep n⟩
theorem StsAt.at_{w:Wo}{B:Nat}{A:OA}{j:List StD}(h:StsAt w B A j){i:Nat}(k:i<j.length):∃b o cs,A=some (zA b o)/\b<B/\w.rangeAt b (o+i*23) cs/\StC w B (j[i]'k) cs:=by obtain⟨b,o,e,c,g⟩:=h U0;obtain⟨cs,d,f⟩:=g i _ (List.getElem?_eq_getElem k);exact⟨b,o,cs,e,c,d,f⟩
theorem stepSize:(prog.info? 40).map (·.size)=some 23:=U1
def SB(w:Wo)(b:Nat)(cs:List Value)(W:Wo):Prop:=W.heap[b]?=some (.cells cs.toArray 40 (0,0))/\zB w W/\w.heap.size<=b/\b<W.heap.size
section
variable {w:Wo} {b:Nat} {cs:List Value} {W W':Wo}
theorem SB.grow(h:SB w b cs W)(i:zB W W'):SB w b cs W':=by obtain⟨d,f,g,c⟩:=h;exact⟨(i.block _ c).trans d,f.trans (i.mono U0),g,Nat.lt_of_lt_of_le c i.size⟩
theorem SB.cell(h:SB w b cs W){k:Nat}{v:Value}(c:cs[k]?=some v):W.cell? (zA b k)=some v:=by rw[cell_of_row W b k _ _ _ h.1];simpa using c
theorem SB.range(h:SB w b cs W):W.rangeAt b 0 cs:=range_of_row h.1
theorem SB.sub(h:SB w b cs W)(o:Nat)(f:List Value)(hd:∀j,j<f.length->cs[o+j]?=f[j]?):W.rangeAt b o f:=fun j v hv=>by
 have d:=(List.getElem?_eq_some_iff.1 hv).1
 have c:=hd j d
 rw[hv] at c
 have:=range_of_row h.1 (o+j) v c
 rw[Nat.zero_add] at this
 exact this
end
theorem sb_new(w:Wo)(cs:List Value):SB w w.heap.size cs (w.alloc (.cells cs.toArray 40)):=⟨heap_alloc_new _ _,zV.alloc zn _,Nat.le_refl _,U2⟩
theorem StC.more{w:Wo}{B B':Nat}{d:StD}{cs:List Value}(h:StC w B d cs)(A:B<=B'):StC w B' d cs:=by obtain⟨j,i,g,c,f,k,l,Ar,m,At,p,o,n,ca,cb,cp,q,r,b,s,e,z,t,u,v,x,y⟩:=h;exact⟨j,i,g,c,f,k,l,Ar,m,At,p,o,n,ca,cb,cp,q,r,b,s,e,z,t.more A,u.more A,v.more A,x.more A,y.more A⟩
theorem StC.lift{w W:Wo}{d:StD}{cs:List Value}(h:StC w w.heap.size d cs)(c:zB w W):StC W W.heap.size d cs:=(h.keep c).more c.size
theorem range_keep_v{w w':Wo}{b o:Nat}{cs:List Value}(h:w.rangeAt b o cs)(c:w'.heap[b]?=w.heap[b]?):w'.rangeAt b o cs:=fun j v hv=>(World.cell?_of_block (a:=(zA b (o+j))) c).trans (h j v hv)
end Go.Proofs.YtkcdlealipfnbaaGreat
namespace Go.Proofs.YtkcdlealipfnbaaGreat
open Go.RowKit Pln Go.Proofs.Tryz
def formZ(d:StD):Int:=if codeZ d.p d.m d.mod d.n d.gen≠0 then codeZ d.p d.m d.mod d.n d.gen else if d.low<1\/d.n+1<d.low then 6 else 0
theorem codeZ_n{p m:Int}{mod:LI}{n:Int}{zs:List LI}(h:codeZ p m mod n zs=0):fieldOK p m mod=true/\lengthZ n=0/\spZ p m mod n zs=0:=by
 unfold codeZ at h;split at h
 . cases h
 . rename_i h1;split at h
   . cases h
   . rename_i h2;exact⟨by simpa using h1,by simpa using h2,h⟩
theorem formed_g(d:StD)(cs:List Value)(w:Wo)(h:StC w w.heap.size d cs)(hk:d.ok):
 zC 15 #[.agg cs.toArray] w fun e w'=>e=.returned (Y (formZ d))/\zB w w':=by
 obtain⟨k,i,C,A,B,D,E,Ar,H,At,r,q,L,ca,cb,cp,M,O,s,P,rfl,_,Q,R,U,V,W⟩:=h;have f:=zH (sb_new w (stCells d k i C A B D E Ar H At r q L ca cb cp M O s P));have K:=zH Q;have I:=zH R;have t:zK (formZ d=if codeZ d.p d.m d.mod d.n d.gen≠0 then codeZ d.p d.m d.mod d.n d.gen else if d.low<1\/d.n+1<d.low then 6 else 0):=rfl;have T:zK (codeZ d.p d.m d.mod d.n d.gen=0->1<=d.n/\d.n<=64):=fun h=>by
  have:=(codeZ_n h).2.1;unfold lengthZ at this;split at this
  . cases this
  . omega
 obtain⟨x,y,_⟩:=hk;have e:maxLen=9223372036854775807:=rfl;rw[e] at x y;clear Q R U V W e;go_enter func15,ntmps15;go_upto_region 1 with fail;generalize w.alloc (.cells (stCells d k i C A B D E Ar H At r q L ca cb cp M O s P).toArray 40)=u at *;have l:zK (u.rangeAt w.heap.size 1 (C2 d.p d.m k d.mod.length r d.n i d.gen.length q)):=f.o.sub 1 _ (fun j hj=>by rcases j with _|_|_|_|_|j<;>first|rfl|(simp at hj;omega));have J:=zH (codecheck_c d.p d.m d.mod k r d.n d.gen i q u ((K.o.keep f.o.2.1).more f.o.2.1.size) x ((I.o.keep f.o.2.1).more f.o.2.1.size) y);clear K I x y;generalize codeZ d.p d.m d.mod d.n d.gen=z at *;go_wp2_with (refine wpList_load_mid rfl 32 (.tmp 4) rfl w.heap.size 1 rfl (C2 d.p d.m k d.mod.length r d.n i d.gen.length q) _ l.o underlying32 rfl codeSize ?_);go_fit J.o;rintro e S ⟨rfl,hb1⟩;have b:=zH (f.o.grow hb1);clear hb1 f J l;clear u;have y6:S.cell? (zA w.heap.size 6)=some (Y d.low):=b.o.cell rfl;have y4:S.cell? (zA w.heap.size 4)=some (Y d.n):=b.o.cell rfl;by_cases v:z=0
 . subst v;obtain ⟨n1,n2⟩:=T.o rfl;have g:=t.o;rw [if_neg U2] at g;generalize d.low=low at *;generalize d.n=N at *;have hw:IntKind.i64.wrap (N+1)=N+1:=IntWalk.i64_in _ U0;have c:=zH g;clear g t;by_cases Z:low<1
   . go_wp2;go_ret;exact⟨qaG (by rw[c.o,if_pos (.inl Z)]),b.o.2.1⟩
   . by_cases X : N + 1 < low
     . go_wp2;go_ret;exact⟨qaG (by rw[c.o,if_pos (.inr X)]),b.o.2.1⟩
     . go_wp2;go_ret;exact⟨qaG (by rw[c.o,if_neg U0]),b.o.2.1⟩
 . have aa:=bne_iff_ne.2 v;have g:=t.o;rw[if_pos v] at g;have c:=zH g;clear g t;go_wp2;go_ret;exact⟨qaG (by rw[c.o]),b.o.2.1⟩
end Go.Proofs.YtkcdlealipfnbaaGreat
namespace Go.Proofs.YtkcdlealipfnbaaGreat
open Go.RowKit Pln
structure FormIs (d:StD):Prop where
 field:fieldOK d.p d.m d.mod=true
 n1:1<=d.n
 n2:d.n<=64
 rows:nzs (natR d.gen)=d.gen
 grid:Grid (d.p.toNat^d.m.toNat) (natR d.gen).length d.n.toNat (natR d.gen)
 len:d.gen.length<=256
 low1:1<=d.low
 low2:d.low<=d.n+1
theorem form_is{d:StD}(h:formZ d=0):FormIs d:=by
 unfold formZ at h;split at h
 . rename_i hz;exact absurd h hz
 . rename_i hz;have g:=Classical.byContradiction hz;obtain ⟨i,b,c⟩:=codeZ_n g;have j:1<=d.n/\d.n<=64:=by
    unfold lengthZ at b;split at b
    . cases b
    . omega
   have f:errC d.p d.m d.mod d.n d.gen=0:=by
    unfold spZ at c;split at c
    . rename_i he;exact absurd c he
    . rename_i he;exact Classical.byContradiction he
   unfold errC at f;rw[if_pos i] at f;obtain⟨k,l,q,r,o⟩:=check_grid f;split at h
   . cases h
   . rename_i hl;exact⟨i,j.1,j.2,k,l,o,U0,U0⟩
def ordT(lg:LN)(q x:Nat):Nat:=(q-1) / Nat.gcd (q-1) (lg.getD x 0)
end Go.Proofs.YtkcdlealipfnbaaGreat
namespace Go.Proofs.YtkcdlealipfnbaaGreat
open Go.RowKit Pln Go.Proofs.Tryz
def BB:Nat:=4294967296
def tlen(l:LN):Nat->Nat
 |0=>0
 |n+1=>if l.getD n 0=0 then tlen l n else n+1
theorem tlen_le(l:LN):∀ n,tlen l n<=n
 |0=>Nat.le_refl 0
 |n + 1=>by
   have:=tlen_le l n
   unfold tlen
   split<;>omega
def trm(l:LN):LN:=l.take (tlen l l.length)
def Cn(l:LN):Prop:=(∀d∈l,d<BB)/\(0<l.length->l.getD (l.length-1) 0≠0)
theorem trm_len(l:LN):(trm l).length=tlen l l.length:=by unfold trm;rw[List.length_take];exact Nat.min_eq_left (tlen_le l _)
theorem tlen_nz(l:LN):∀ n,0<tlen l n->l.getD (tlen l n-1) 0≠0
 |0,h=>by simp[tlen] at h
 | n + 1,h => by
   unfold tlen at h ⊢
   by_cases e:l.getD n 0=0
   . rw[if_pos e] at h ⊢
     exact tlen_nz l n h
   . rw[if_neg e]
     exact e
theorem take_getD{l:LN}{n j:Nat}(b:j<n):(l.take n).getD j 0=l.getD j 0:=by simp[List.getD,b]
theorem trm_cn{l:LN}(h:∀d∈l,d<BB):Cn (trm l):=by refine⟨fun d hd=>h d (List.mem_of_mem_take hd),fun hp=>?_⟩;rw[trm_len] at hp ⊢;unfold trm;rw[take_getD U0];exact tlen_nz l _ hp
theorem val_app(p:Nat):∀ a b:LN,val p (a++b)=val p a+p ^ a.length*val p b
 |[],b=>by simp[val]
 |x :: a,b=>by
   rw[List.cons_append,val,val,val_app p a b,Nat.mul_add,List.length_cons,Nat.pow_succ,Nat.mul_comm (p^a.length) p,Nat.mul_assoc]
   omega
theorem qfP(p:Nat){l:LN}{n:Nat}(b:n<l.length):val p (l.take (n+1))=val p (l.take n)+p^n*l.getD n 0:=by rw[List.take_add_one,val_app,List.length_take,Nat.min_eq_left U0];simp[List.getD,b,val]
theorem tlen_val(p:Nat)(l:LN):∀ n,n<=l.length->val p (l.take (tlen l n))=val p (l.take n)
 |0,_=>rfl
 |n + 1,hn=>by
   unfold tlen
   by_cases e:l.getD n 0=0
   . rw[if_pos e,tlen_val p l n U0,qfP p U0,e,Nat.mul_zero,Nat.add_zero]
   . rw[if_neg e]
theorem trm_val(p:Nat)(l:LN):val p (trm l)=val p l:=by unfold trm;rw[tlen_val p l _ zn,List.take_length]
theorem cn_trm{l:LN}(h:Cn l):trm l=l:=by
 unfold trm;have e:tlen l l.length=l.length:=by
  by_cases b:l.length=0
  . rw[b];rfl
  . have:=h.2 U0;obtain⟨n,c⟩:∃n,l.length=n+1:=⟨l.length-1,U0⟩;rw[c] at this ⊢;unfold tlen;rw[if_neg (by simpa using this)]
 rw[e,List.take_length]
theorem val_ltB:∀{l:LN},(∀d∈l,d<BB)->val BB l<BB^l.length:=fun{l} h=>val_lt dc l h
theorem cn_ge{l:LN}(h:Cn l)(d:0<l.length):BB^(l.length-1)<=val BB l:=by have c:=h.2 d;have b:=qfP BB (l:=l) (n:=l.length-1) U0;rw[show l.length-1+1=l.length by omega,List.take_length] at b;rw[b];have:BB^(l.length-1)*1<=BB^(l.length-1)*l.getD (l.length-1) 0:=Nat.mul_le_mul_left _ U0;omega
theorem cn_len{l:LN}{k:Nat}(h:Cn l)(f:val BB l<BB^k):l.length<=k:=by
 by_cases c:l.length=0
 . omega
 . have d:=cn_ge h U0;have b:BB^(l.length-1)<BB^k:=U0;have:=(Nat.pow_lt_pow_iff_right (a:=BB) dc).1 b;omega
theorem cn_zero{l:LN}(h:Cn l):val BB l=0 ↔ l=[]:=by
 constructor
 . intro e;have:=cn_len (k:=0) h (by rw[e];decide);exact List.length_eq_zero_iff.1 U0
 . rintro rfl;rfl
def WordsAt(w:Wo)(B:Nat)(A:OA)(l:LN):Prop:=
 0<l.length->∃b o,A=some (zA b o)/\b<B/\∀j,j<l.length->w.cell? (zA b (o+j))=some (.int .u32 ((l.getD j 0:Nat):Int))
section
variable {w w':Wo} {B B':Nat} {A:OA} {l:LN}
theorem WordsAt.keep(h:WordsAt w B A l)(f:Below B w w'):WordsAt w' B A l:=fun hz=>by
 obtain⟨b,o,e,c,d⟩:=h hz
 exact⟨b,o,e,c,fun j hj=>(f.cell (p:=(zA b (o+j))) c).trans (d j hj)⟩
theorem WordsAt.more(h:WordsAt w B A l)(f:B<=B'):WordsAt w B' A l:=fun hz=>by
 obtain⟨b,o,e,d,c⟩:=h hz
 exact⟨b,o,e,U0,c⟩
theorem WordsAt.up(h:WordsAt w w.heap.size A l)(b:zB w w'):WordsAt w' w'.heap.size A l:=(h.keep b).more b.size
theorem WordsAt.at_(h:WordsAt w B A l){k:Nat}(f:k<l.length):∃b o,A=some (zA b o)/\b<B/\w.cell? (zA b (o+k))=some (.int .u32 ((l.getD k 0:Nat):Int)):=by obtain⟨b,o,e,c,d⟩:=h U0;exact⟨b,o,e,c,d k f⟩
theorem WordsAt.take(h:WordsAt w B A l)(n:Nat):WordsAt w B A (l.take n):=fun hz=>by
 rw[List.length_take] at hz
 obtain⟨b,o,e,c,d⟩:=h U0
 refine⟨b,o,e,c,fun j hj=>?_⟩
 rw[List.length_take] at hj
 rw[take_getD U0]
 exact d j U0
theorem WordsAt.nil:WordsAt w B A []:=fun h=>absurd h U2
end
theorem short_c(A:OA)(l:LN)(c:Nat)(w:Wo)(r:WordsAt w w.heap.size A l)(t:l.length<=1000000)(s:l.length<=c):
 zC 211 #[zL A l.length c] w fun e w'=>e=.returned (zL A (trm l).length (trm l).length)/\w=w':=by
 have i:=zH r;clear r;go_enter func211,ntmps211;go_wp2;go_loop [3] (fun v3=>∃n:Nat,n<=l.length/\v3=Y (n:Int)/\tlen l n=tlen l l.length) (fun v3=>(intOf v3).toNat);case atStart=>exact⟨l.length,Nat.le_refl _,rfl,rfl⟩
 case round =>
  obtain⟨n,q,rfl,h⟩:=hrel;have d:=zH h;clear h;rcases n with _|n
  . (have g:zK ((trm l).length=0):=by show _=_;rw[trm_len,<- d.o];rfl);go_wp2;go_ret;rw[g.o];exact⟨rfl,rfl⟩
  . have f : zK (tlen l (n + 1) = if l.getD n 0 = 0 then tlen l n else n + 1) := rfl;obtain ⟨b,o,rfl,j,y⟩:=i.o.at_ (k:=n) U0;(have m:IntKind.i64.wrap (((n+1:Nat):Int)-1)=(n:Int):=by rw [IntWalk.i64_in _ U0];omega);by_cases e:l.getD n 0=0
    . rw[e] at y;go_wp2;go_round;case rel=>exact⟨n,U0,rfl,by rw[<- d.o,f.o,if_pos e]⟩
      case measure=>simp[intOf]
    . (have g:zK ((trm l).length=n+1):=by show _=_;rw[trm_len,<- d.o,f.o,if_neg e]);clear f d;generalize l.getD n 0=z at *;(have p:((z:Int)==0)=false:=by rw[beq_eq_false_iff_ne];omega);go_wp2;go_ret;rw[g.o];exact⟨rfl,rfl⟩
end Go.Proofs.YtkcdlealipfnbaaGreat
