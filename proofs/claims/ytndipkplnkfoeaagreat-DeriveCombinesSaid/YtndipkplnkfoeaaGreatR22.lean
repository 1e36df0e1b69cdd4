/- Parts of the proof. -/
import Derived.Test.YtndipkplnkfoeaaGreatR18
import Derived.Test.YtndipkplnkfoeaaGreatR21
set_option maxRecDepth 100000
set_option maxHeartbeats 8000000
namespace Go.Proofs.YtndipkplnkfoeaaGreat
open Go.RowKit Pln
theorem qbY{W:World}{B:Nat}{v:Value}{xs:List Int}(y:W.ownsRow B 3 1 v xs.length (xs.map (Value.int .i64)))(D:B<=W.heap.size){zs:List Int}{A:Option Addr}{c:Nat}(C:IntsAt W W.heap.size A zs)(E:0<zs.length)(H:xs.length<=1000000)(I:zs.length<=1000000):
 ∃(g c':Nat)(w2:World),(Builtin.append_ #[23,23] 23 #[v,zL A zs.length c]).run Tryz.prog W=.ok (zS g (xs.length+zs.length) c') w2/\Row w2 B g c' (xs++zs)/\Below B W w2/\W.heap.size<=w2.heap.size/\(∀k,k<W.heap.size->v.ownBlock≠some k->w2.heap[k]?=W.heap[k]?)/\(v.ownBlock=some g\/g=W.heap.size):=by
 obtain⟨s,q,j,l,m⟩:=qaF infoInt;obtain⟨b,o,rfl,_,_⟩:=C E;have r:=C.news
 obtain⟨x,w2,f,d,i,_,h⟩:=run_append_own_at (P:=Tryz.prog) (w:=W) B 23 23 3 s _ 1 8 Tryz.underlying23 q j l m rfl dc v xs.length (xs.map (Value.int .i64)) y (zA b o) zs.length c (zs.map (Value.int .i64)) U2 r
  (fun u hu=>by obtain⟨z,_,rfl⟩:=List.mem_map.1 hu;rfl) U3 U0 D
 obtain⟨t,n,rfl,p⟩:=own_slice' d;obtain⟨g,rfl⟩:=p U0;refine⟨g,n,w2,f,?_,(Below.refl _ _).grown i D (fun k hk=>(y.lt k hk).1),i.size,fun k hk hne=>i.block k hk (fun e=>hne e.symm),?_⟩
 . show w2.ownsRow _ _ _ _ _ _;rw[List.length_append,List.map_append];exact d
 . rcases h with e|e
   . exact .inl e.symm
   . exact .inr (by simpa[Value.ownBlock] using e)
def RowsOwn(w:World)(B:Nat)(v:Value)(L:List (List Nat)):Prop:=∃bs,LGrid w B v L bs L.length
theorem RowsOwn.nil(w:World)(B:Nat):RowsOwn w B (zL none 0 0) []:=⟨[],rfl,Nat.le_refl _,World.ownsRow_nil _ _ _ _,fun i hi=>absurd hi (Nat.not_lt_zero i),fun i hi=>absurd hi (Nat.not_lt_zero i)⟩
theorem RowsOwn.of_blocks{w w':World}{B:Nat}{v:Value}{L:List (List Nat)}(h:RowsOwn w B v L)(z:∀ k,B<=k->k<w.heap.size->w'.heap[k]?=w.heap[k]?):RowsOwn w' B v L:=by
 obtain⟨m,p,q,b,s,t⟩:=h;refine⟨m,p,q,?_,fun i hi=>?_,t⟩
 . obtain⟨x,y,rfl,_⟩:=own_slice' b;rcases b.2 with⟨n,o⟩|⟨g,c,cur,u,j,l,r⟩
   . exact⟨b.1,.inl ⟨n,o⟩⟩
   . have d:g<w.heap.size:=block_lt l;exact⟨b.1,.inr ⟨g,c,cur,u,j,(z g j d).trans l,r⟩⟩
 . have f:=s i hi;exact own_below f (z _ f.lt.1 f.lt.2)
theorem RowsOwn.grow{w w':World}{B:Nat}{v:Value}{L:List (List Nat)}(h:RowsOwn w B v L)(b:Below w.heap.size w w'):RowsOwn w' B v L:=h.of_blocks fun k _ hk=>b.block k hk
theorem RowsOwn.up{w:World}{B:Nat}{v:Value}{L:List (List Nat)}(h:RowsOwn w B v L):∃A c,v=zL A L.length c/\RowsUp w B A (nzs L):=by obtain⟨g,b⟩:=h;obtain⟨d,f,rfl,_⟩:=own_slice' b.out;exact⟨d,f,rfl,b.up⟩
theorem LGrid.wider{w:World}{B:Nat}{v:Value}{L:List (List Nat)}{b:List (Nat × Nat)}(h:LGrid w B v L b L.length)(r:List Nat):LGrid w B v (L++[r]) b L.length:=by
 have e:∀i,i<L.length->(L++[r]).getD i []=L.getD i []:=fun i hi=>getD_snoc_lt hi;refine⟨h.len,U2,?_,fun i hi=>by rw[e i hi];exact h.row i hi,h.apart⟩
 rw[show(List.range L.length).map (hdr (L++[r]) b)=(List.range L.length).map (hdr L b) from List.map_congr_left fun i hi=>by
  unfold hdr
  rw[e i (List.mem_range.1 hi)]]
 exact h.out
theorem RowsOwn.append{w w1:World}{B:Nat}{v:Value}{L:List (List Nat)}(h:RowsOwn w B v L)(S:B<=w.heap.size)(R:Below w.heap.size w w1){g c:Nat}{r:List Nat}(T:Row w1 w.heap.size g c (nz r))(U:L.length<=1000000):
 ∃(v':Value)(w2:World),(Builtin.append_ #[30,30] 30 #[v,zS w1.heap.size 1 1]).run Tryz.prog (w1.alloc (.cells #[zS g r.length c] 23))=.ok v' w2/\Below B w w2/\w.heap.size<=w2.heap.size/\RowsOwn w2 B v' (L++[r]):=by
 obtain⟨M,x,z,A,C⟩:=qaF infoInts;obtain⟨m,j⟩:=h;have I:=R.size;have b:(w1.alloc (.cells #[zS g r.length c] 23)).ownsRow B 23 1 v L.length ((List.range L.length).map (hdr L m)):=by
  refine World.ownsRow.alloc ?_ _;obtain⟨O,Q,rfl,_⟩:=own_slice' j.out;rcases j.out.2 with⟨n,H⟩|⟨D,p,cur,J,q,E,N⟩
  . exact⟨j.out.1,.inl ⟨n,H⟩⟩
  . exact⟨j.out.1,.inr ⟨D,p,cur,J,q,(R.block D (block_lt E)).trans E,N⟩⟩
 obtain⟨v',w2,l,f,d,_,s⟩:=run_append_own_at (P:=Tryz.prog) (w:=w1.alloc (.cells #[zS g r.length c] 23)) B 30 30 23 M _ 1 24 Tryz.underlying30 x z A C rfl dc v L.length ((List.range L.length).map (hdr L m)) b (zA w1.heap.size 0) 1 1 [zS g r.length c] rfl
  (World.news_of_block (cs:=#[zS g r.length c]) (t:=23) (fr:=(0,0)) (heap_alloc_new w1 _)) (fun u hu=>by simp at hu;subst hu;rfl) U3 U0 so
 have n:(L++[r]).getD L.length []=r:=getD_snoc_eq L r [];have K:=j.wider r
 have y:=LGrid.step (w:=w) (w1:=w1) (w2:=w2) (v':=v') (k:=L.length) (g:=g) (c:=c) (o:=.cells #[zS g r.length c] 23) K U2 S R (by rw[n];exact T) (by
  rw[n]
  rw[show(List.range L.length).map (hdr (L++[r]) m)=(List.range L.length).map (hdr L m) from List.map_congr_left fun i x=>by
   unfold hdr
   rw[getD_snoc_lt (List.mem_range.1 x)]]
  exact f) d s
 refine⟨v',w2,l,?_,Nat.le_trans I (Nat.le_trans U2 d.size),⟨_,by rw[List.length_append];exact y⟩⟩;exact(((R.mono S).alloc U0 _).grown d so fun k hk=>(b.lt k hk).1)
theorem make0(n:Nat)(i:n<=100000):∃zz:Array Value,zz.size=n/\∀W,(Instr.makeSlice 23 (Y 0) (Y (n:Int))).run Tryz.prog W=.ok (zS W.heap.size 0 n) (W.alloc (.cells zz 3)):=by obtain⟨h,g,b,c,d⟩:=qaF infoInt;refine⟨madeCells (Y 0).cells (n*1),by simp[size_madeCells],fun W=>?_⟩;have f:=run_make (P:=Tryz.prog) W 23 3 h _ Tryz.underlying23 g b .i64 .i64 0 n U0 U0 (by rw[d];omega) U0;simp only[Int.toNat_natCast,c] at f;exact f
theorem makeN(n:Nat)(i:n<=100000):∃zz:Array Value,(∀W,(Instr.makeSlice 23 (Y (n:Int)) (Y (n:Int))).run Tryz.prog W=.ok (zS W.heap.size n n) (W.alloc (.cells zz 3)))/\∀(W:World)(B:Nat),B<=W.heap.size->Row (W.alloc (.cells zz 3)) B W.heap.size n (nz (List.replicate n 0)):=by obtain⟨h,g,b,c,d⟩:=qaF infoInt;refine⟨madeCells (Y 0).cells (n*1),fun W=>?_,fun W B hB=>Row.of_make (World.ownsRow_lit W _ n hB U3 (size_madeCells _ _))⟩;have f:=run_make (P:=Tryz.prog) W 23 3 h _ Tryz.underlying23 g b .i64 .i64 n n U0 U0 (by rw[d];omega) U0;simp only[Int.toNat_natCast,c] at f;exact f
theorem beside_c(u v:List Nat)(E H:Option Addr)(cu cv:Nat)(w:World)(I:IntsAt w w.heap.size E (nz u))(J:IntsAt w w.heap.size H (nz v))(K:0<u.length)(M:0<v.length)(L:u.length<=1000)(N:v.length<=1000):
 zC 79 #[zL E u.length cu,zL H v.length cv] w fun e w'=>(∃g c,e=.returned (zS g (u++v).length c)/\Row w' w.heap.size g c (nz (u++v)))/\Below w.heap.size w w':=by
 obtain⟨p,A,o⟩:=make0 (u.length+v.length) U0;simp only[Int.natCast_add] at o;have b:Hid (Below w.heap.size w (w.alloc (.cells p 3))):=(Below.refl _ _).alloc (Nat.le_refl _) _;obtain⟨y,c1,t,f,i,q,C,_,_⟩:=qbY (W:=w.alloc (.cells p 3)) (B:=w.heap.size) (v:=zS w.heap.size 0 (u.length+v.length)) (xs:=[]) (World.ownsRow_made w p _ (Nat.le_refl _) U3 U0) b.out.size (c:=cu) ((I.keep b.out).more b.out.size) (by rw[qaA];exact K) U2 (by rw[qaA];omega);have d:Hid (Below w.heap.size w t):=b.out.trans q;obtain⟨s,c2,x,h,j,r,D,_,_⟩:=qbY (W:=t) (B:=w.heap.size) (v:=zS y (nz u).length c1) (xs:=nz u) i d.out.size (c:=cv) ((J.keep d.out).more d.out.size) (by rw[qaA];exact M) (by rw[qaA];omega) (by rw[qaA];omega);rw[qaA] at f h;rw[List.length_nil,Nat.zero_add] at f;rw[qaA] at h;have l:=zH f;have m:=zH h;have k:Hid (Row x w.heap.size s c2 (nz (u++v))):=by show Row _ _ _ _ _;rw[show nz (u++v)=nz u++nz v by simp[nz]];exact j
 have n:Hid (Below w.heap.size w x):=d.out.trans r;have z:IntKind.i64.wrap ((u.length:Int)+(v.length:Int))=(u.length:Int)+(v.length:Int):=IntWalk.i64_in _ U0;clear i j q r C D I J f h;go_enter Tryz.func79,Tryz.ntmps79;go_wp2_with (at_builtin;first|(refine qaP rfl (.tmp 10) (.tmp 11) 23 rfl rfl rfl l.out ?_)|(refine qaP rfl (.tmp 12) (.tmp 13) 23 rfl rfl rfl m.out ?_));go_ret;exact⟨⟨s,c2,U2,k.out⟩,n.out⟩
end Go.Proofs.YtndipkplnkfoeaaGreat
namespace Go.Proofs.YtndipkplnkfoeaaGreat
open Pln
namespace Al
structure El (q:Nat) (O:Ops) (h:Fld q O) where
 n:Nat
 lt:n<q
section
variable {q:Nat} {O:Ops} {h:Fld q O}
theorem El.eq{x y:El q O h}(e:x.n=y.n):x=y:=by cases x;cases y;simp only at e;subst e;rfl
instance:Add (El q O h):=⟨fun x y=>⟨O.add x.n y.n,h.addL _ _ x.lt y.lt⟩⟩
instance:Mul (El q O h):=⟨fun x y=>⟨O.mul x.n y.n,h.mulL _ _ x.lt y.lt⟩⟩
instance:Neg (El q O h):=⟨fun x=>⟨O.neg x.n,h.negL _ x.lt⟩⟩
instance:Zero (El q O h):=⟨⟨0,by have:=h.q1;omega⟩⟩
instance:One (El q O h):=⟨⟨1,h.q1⟩⟩
theorem El.fd:Fd (El q O h) where
 addC x y:=El.eq (h.addC _ _ x.lt y.lt)
 addA x y z:=El.eq (h.addA _ _ _ x.lt y.lt z.lt)
 addZ x:=El.eq (h.addZ _ x.lt)
 addN x:=El.eq (h.addN _ x.lt)
 mulC x y:=El.eq (h.mulC _ _ x.lt y.lt)
 mulA x y z:=El.eq (h.mulA _ _ _ x.lt y.lt z.lt)
 mulU x:=El.eq (h.mulU _ x.lt)
 dist x y z:=El.eq (h.dist _ _ _ x.lt y.lt z.lt)
 inv x hx:=by
  have b:x.n≠0:=fun e=>hx (El.eq e)
  exact⟨⟨O.inv x.n,h.invL _ x.lt b⟩,El.eq (h.inv _ x.lt b)⟩
 ne e:=by
  have:(1:Nat)=0:=congrArg El.n e
  omega
def El.of(h:Fld q O)(x:Nat):El q O h:=if hx:x<q then⟨x,hx⟩ else 0
theorem El.of_n{x:Nat}(b:x<q):(El.of h x).n=x:=by unfold El.of;rw[dif_pos b]
theorem El.of_zero:El.of h 0=0:=El.eq (El.of_n (by have:=h.q1;omega))
theorem El.of_one:El.of h 1=1:=El.eq (El.of_n h.q1)
theorem El.of_add{x y:Nat}(b:x<q)(c:y<q):El.of h (O.add x y)=El.of h x+El.of h y:=by refine El.eq ?_;rw[El.of_n (h.addL _ _ b c)];show _=O.add (El.of h x).n (El.of h y).n;rw[El.of_n b,El.of_n c]
theorem El.of_mul{x y:Nat}(b:x<q)(c:y<q):El.of h (O.mul x y)=El.of h x*El.of h y:=by refine El.eq ?_;rw[El.of_n (h.mulL _ _ b c)];show _=O.mul (El.of h x).n (El.of h y).n;rw[El.of_n b,El.of_n c]
theorem El.of_neg{x:Nat}(b:x<q):El.of h (O.neg x)=-El.of h x:=by refine El.eq ?_;rw[El.of_n (h.negL _ b)];show _=O.neg (El.of h x).n;rw[El.of_n b]
theorem El.of_inj{x y:Nat}(b:x<q)(c:y<q)(e:El.of h x=El.of h y):x=y:=by have:=congrArg El.n e;rwa [El.of_n b,El.of_n c] at this
theorem Fld.self(h:Fld q O):OpsEq q O O where
 add x y hx hy:=⟨rfl,h.addL x y hx hy⟩
 mul x y hx hy:=⟨rfl,h.mulL x y hx hy⟩
 neg x hx:=⟨rfl,h.negL x hx⟩
 inv x hx h0:=⟨rfl,h.invL x hx h0⟩
def wd(h:Fld q O)(w:List Nat)(j:Nat):El q O h:=El.of h (w.getD j 0)
theorem getD_at{l:List Nat}{j:Nat}(b:j<l.length):l.getD j 0=l[j]:=by simp[List.getD,b]
theorem getD_ok{l:List Nat}(h:∀x∈l,x<q)(c:0<q)(j:Nat):l.getD j 0<q:=by
 by_cases b:j<l.length
 . rw[getD_at b];exact h _ (List.getElem_mem b)
 . rw[qaZ U0];exact c
theorem qeH(n j:Nat):wd h (List.replicate n 0) j=0:=by
 unfold wd;have:(List.replicate n 0).getD j 0=0:=by simp[List.getD,List.getElem?_replicate];split<;>rfl
 rw[this,El.of_zero]
theorem wd_addRow{v u:List Nat}{a:Nat}(m:a<q)(o:∀ x∈v,x<q)(n:∀ x∈u,x<q)(p:v.length=u.length)(j:Nat):wd h (addRow O v a u) j=wd h v j+El.of h a*wd h u j:=by
 have H:=El.fd (h:=h);unfold wd;by_cases k:j<v.length
 . (have c : j < u.length:=by omega);(have e:(addRow O v a u).getD j 0=if u.getD j 0=0 then v.getD j 0 else O.add (v.getD j 0) (O.mul a (u.getD j 0)):=by rw[getD_at k,getD_at c,getD_at (by unfold addRow;rw[List.length_zipWith];omega)];unfold addRow;rw[List.getElem_zipWith]);have l:=getD_ok o (by have:=h.q1;omega) j;have d:=getD_ok n (by have:=h.q1;omega) j;rw[e];by_cases b:u.getD j 0=0
   . rw[if_pos b,b,El.of_zero,H.mulZ,H.zadd]
   . rw[if_neg b,El.of_add l (h.mulL _ _ m d),El.of_mul m d]
 . have f:v.getD j 0=0:=qaZ U0;have g:u.getD j 0=0:=qaZ U0;have i:(addRow O v a u).getD j 0=0:=qaZ (by unfold addRow;rw[List.length_zipWith];omega);rw[f,g,i,El.of_zero,H.mulZ,H.addZ]
theorem wd_scale{u:List Nat}{a:Nat}(f:a<q)(g:∀x∈u,x<q)(j:Nat):wd h (scaleRow O a u) j=El.of h a*wd h u j:=by
 have H:=El.fd (h:=h);unfold wd;by_cases b:j<u.length
 . (have e:(scaleRow O a u).getD j 0=O.mul a (u.getD j 0):=by rw[getD_at b,getD_at (by unfold scaleRow;rw[List.length_map];exact b)];unfold scaleRow;rw[List.getElem_map]);rw[e,El.of_mul f (getD_ok g (by have:=h.q1;omega) j)]
 . have c:u.getD j 0=0:=qaZ U0;have d:(scaleRow O a u).getD j 0=0:=qaZ (by unfold scaleRow;rw[List.length_map];omega);rw[c,d,El.of_zero,H.mulZ]
structure LinF (q:Nat) (O:Ops) (h:Fld q O) (Q:(Nat->El q O h)->Prop):Prop where
 zero:Q fun _=>0
 step:∀f g a,Q f->Q g->Q fun j=>f j+a*g j
theorem LinF.addRow{Q:(Nat->El q O h)->Prop}(L:LinF q O h Q){v u:List Nat}{a:Nat}(d:a<q)(i:∀x∈v,x<q)(g:∀x∈u,x<q)(f:v.length=u.length)(b:Q (wd h v))(c:Q (wd h u)):Q (wd h (addRow O v a u)):=by rw[show wd h (Pln.addRow O v a u)=fun j=>wd h v j+El.of h a*wd h u j from funext fun j=>wd_addRow d i g f j];exact L.step _ _ _ b c
theorem LinF.scale{Q:(Nat->El q O h)->Prop}(L:LinF q O h Q){u:List Nat}{a:Nat}(c:a<q)(d:∀x∈u,x<q)(b:Q (wd h u)):Q (wd h (scaleRow O a u)):=by rw[show wd h (scaleRow O a u)=fun j=>0+El.of h a*wd h u j from funext fun j=>by rw[wd_scale c d,El.fd.addZ]];exact L.step _ _ _ L.zero b
theorem mem_getD{rows:List (List Nat)}{i:Nat}(b:i<rows.length):rows.getD i []∈rows:=by
 have:rows.getD i []=rows[i]:=by simp[List.getD,b]
 rw[this];exact List.getElem_mem b
section
variable {Q:(Nat->El q O h)->Prop} {n cols:Nat}
theorem LinF.clear(L:LinF q O h Q){rows:List (List Nat)}(m:Grid q n cols rows){c t:Nat}(l:c<cols)(ht:t<n)(o:∀ r∈rows,Q (wd h r)):∀ i,i<=n->∀ r∈clearGo O c t rows i,Q (wd h r)
 |0,_=>o
 | i + 1,hi => by
   have ih:=LinF.clear L m l ht o i U0
   obtain⟨_,g⟩:=qdJ h.self m l ht i U0
   unfold clearGo
   split
   . intro r b
     rcases List.mem_or_eq_of_mem_set b with b|rfl
     . exact ih r b
     . obtain⟨d,f⟩:=g.row (i:=i) U0
       obtain⟨j,k⟩:=g.row ht
       exact L.addRow (h.negL _ (g.at_ U0 l)) f k (by rw[d,j]) (ih _ (mem_getD (by rw[g.1];omega))) (ih _ (mem_getD (by rw[g.1];omega)))
   . exact ih
theorem LinF.elim(L:LinF q O h Q){rows:List (List Nat)}(B:Grid q n cols rows)(C:∀ r∈rows,Q (wd h r)):∀ c,c<=cols->∀ r∈(elGo O rows c).rows,Q (wd h r)
 |0,_=>C
 | c + 1,hc => by
   have ih:=LinF.elim L B C c U0
   obtain⟨_,g⟩:=qdT h.self B c U0
   unfold elGo
   generalize elGo O rows c=s at *
   unfold elStep
   by_cases p:s.piv.length<s.rows.length
   . simp only [if_pos p]
     have z:=qdF s.rows c (s.rows.length-s.piv.length) s.piv.length
     by_cases t:findRow s.rows c (s.rows.length-s.piv.length) s.piv.length=s.rows.length
     . simp only[if_pos t]
       exact ih
     . simp only [if_neg t]
       have d:=qcF s.rows c (s.rows.length-s.piv.length) s.piv.length U0
       generalize findRow s.rows c (s.rows.length-s.piv.length) s.piv.length=k at *
       have l:=g.1
       have f:=qdC g (i:=s.piv.length) (j:=k) U0 U0
       have o:at2 (swapRows s.rows s.piv.length k) s.piv.length c≠0:=by
        unfold at2 at d ⊢
        rw[swap_at U0 U0]
        exact d
       have m:∀ r∈swapRows s.rows s.piv.length k,Q (wd h r):=by
        intro r b
        unfold swapRows at b
        rcases List.mem_or_eq_of_mem_set b with b|rfl
        . rcases List.mem_or_eq_of_mem_set b with b|rfl
          . exact ih r b
          . exact ih _ (mem_getD U0)
        . exact ih _ (mem_getD U0)
       generalize swapRows s.rows s.piv.length k=y at *
       obtain⟨_,u⟩:=norm_eq h.self f (i:=s.piv.length) U0 U0 o
       have v:∀ r∈normRow O y s.piv.length c,Q (wd h r):=by
        unfold normRow
        split
        . exact m
        . intro r b
          rcases List.mem_or_eq_of_mem_set b with b|rfl
          . exact m r b
          . obtain⟨A,x⟩:=f.row (i:=s.piv.length) U0
            exact L.scale (h.invL _ (f.at_ U0 U0) o) x (m _ (mem_getD (by rw[f.1];omega)))
       rw[l]
       exact LinF.clear L u U0 U0 v n (Nat.le_refl _)
   . simp only[if_neg p]
     exact ih
theorem LinF.canon(L:LinF q O h Q){rows:List (List Nat)}(c:Grid q n cols rows)(d:∀r∈rows,Q (wd h r)):∀r∈canonM O rows cols,Q (wd h r):=by intro r b;unfold canonM at b;exact L.elim c d cols (Nat.le_refl _) r (List.mem_of_mem_take b)
theorem LinF.comb(L:LinF q O h Q){rows:List (List Nat)}{n:Nat}(m:∀ r∈rows,Dv.Ok q n r/\Q (wd h r)):∀ (msg out:List Nat),(∀ x∈msg,x<q)->Dv.Ok q n out->Q (wd h out)->Q (wd h (Dv.combO O out msg rows))/\Dv.Ok q n (Dv.combO O out msg rows):=by
 induction rows with
 |nil=>intro msg out _ b c;cases msg<;>exact⟨c,b⟩
 |cons r rs ih=>
  intro msg out f b c;cases msg with
  |nil=>exact⟨c,b⟩
  |cons x xs=>
   unfold Dv.combO;obtain⟨⟨j,k⟩,l⟩:=m r List.mem_cons_self;have d:=ih (fun y hy=>m y (List.mem_cons_of_mem _ hy)) xs;have i:=f x List.mem_cons_self;by_cases g:x=0
   . rw[if_pos g];exact d out (fun y hy=>f y (List.mem_cons_of_mem _ hy)) b c
   . rw[if_neg g];exact d _ (fun y hy=>f y (List.mem_cons_of_mem _ hy)) ⟨by unfold Pln.addRow;rw[List.length_zipWith,b.1,j,Nat.min_self],(qdB h.self i b.2 k).2⟩ (L.addRow i b.2 k (by rw[b.1,j]) c l)
end
def UnitC(r:Nat)(rows:List (List Nat))(piv:List Nat):Prop:=∀i,i<rows.length->∀k,k<r->at2 rows i (piv.getD k 0)=if i=k then 1 else 0
theorem qcJ{rows:List (List Nat)}(i c:Nat):El.of h (at2 rows i c)=wd h (rows.getD i []) c:=rfl
theorem at2_set{rows:List (List Nat)}{i:Nat}(b:i<rows.length)(r:List Nat)(k c:Nat):at2 (rows.set i r) k c=if k=i then r.getD c 0 else at2 rows k c:=by
 unfold at2;by_cases e:k=i
 . subst e;rw[if_pos rfl];simp[List.getD,b]
 . rw[if_neg e];simp only[List.getD];rw[List.getElem?_set_ne (fun e2=>e e2.symm)]
theorem addRow_at{v u:List Nat}{a:Nat}{j:Nat}(b:j<v.length)(c:v.length=u.length):(addRow O v a u).getD j 0=if u.getD j 0=0 then v.getD j 0 else O.add (v.getD j 0) (O.mul a (u.getD j 0)):=by rw[getD_at b,getD_at (show j<u.length by omega),getD_at (by unfold addRow;rw[List.length_zipWith];omega)];unfold addRow;rw[List.getElem_zipWith]
theorem clear_at(h:Fld q O){n cols:Nat}{rows:List (List Nat)}(B:Grid q n cols rows){c t:Nat}(z:c<cols)(ht:t<n)(A:at2 rows t c=1):∀ i,i<=n ->
 (∀k,k<n->∀j,j<cols->at2 rows t j=0->at2 (clearGo O c t rows i) k j=at2 rows k j)/\(∀j,at2 (clearGo O c t rows i) t j=at2 rows t j)/\(∀k,k<i->k≠t->at2 (clearGo O c t rows i) k c=0)/\(∀k,i<=k->∀j,at2 (clearGo O c t rows i) k j=at2 rows k j)
 |0,_=>⟨fun _ _ _ _ _=>rfl,fun _=>rfl,fun k hk=>U0,fun _ _ _=>rfl⟩
 | i + 1,hi => by
   have hq:=h.q1
   obtain⟨o,f,r,s⟩:=clear_at h B z ht A i U0
   obtain⟨_,g⟩:=qdJ h.self B z ht i U0
   unfold clearGo
   split
   . rename_i hne
     obtain⟨l,p⟩:=hne
     generalize clearGo O c t rows i=R at *
     have b:i<R.length:=by rw[g.1];omega
     obtain⟨u,v⟩:=g.row (i:=i) U0
     obtain⟨x,y⟩:=g.row ht
     have d:∀j,j<cols->(addRow O (R.getD i []) (O.neg (at2 R i c)) (R.getD t [])).getD j 0=if at2 R t j=0 then at2 R i j else O.add (at2 R i j) (O.mul (O.neg (at2 R i c)) (at2 R t j)):=fun j hj=>addRow_at U0 U0
     refine⟨fun k hk j hj h0=>?_,fun j=>?_,fun k hk hkt=>?_,fun k hk j=>?_⟩
     . rw [at2_set b]
       split
       . rename_i e
         subst e
         rw[d j hj,if_pos (by rw[f j];exact h0)]
         exact o k hk j hj h0
       . exact o k hk j hj h0
     . rw[at2_set b,if_neg (fun e=>l e.symm)]
       exact f j
     . rw [at2_set b]
       split
       . rename_i e
         subst e
         rw[d c z,f c,A,if_neg U0]
         have m:=g.at_ (i:=k) (c:=c) U0 z
         rw[h.mulC _ _ (h.negL _ m) h.q1,h.mulU _ (h.negL _ m),h.addN _ m]
       . exact r k U0 hkt
     . rw[at2_set b,if_neg U0]
       exact s k U0 j
   . rename_i hne
     refine⟨o,f,fun k hk hkt=>?_,fun k hk j=>s k U0 j⟩
     by_cases e:k=i
     . subst e
       refine Classical.byContradiction fun p=>hne ⟨hkt,p⟩
     . exact r k U0 hkt
theorem unit_elim(h:Fld q O){n cols:Nat}{rows:List (List Nat)}(hG:Grid q n cols rows):∀ c,c<=cols->UnitC (elGo O rows c).piv.length (elGo O rows c).rows (elGo O rows c).piv
 |0,_=>fun i _ k hk=>by simp[elGo] at hk
 | c + 1,hc => by
   have ih:=unit_elim h hG c U0
   obtain⟨_,g⟩:=qdT h.self hG c U0
   have C:=elGo_piv_lt O rows c
   have Z:=h.q1
   unfold elGo
   generalize elGo O rows c=s at *
   unfold elStep
   by_cases H:s.piv.length<s.rows.length
   . simp only [if_pos H]
     have X:=qdF s.rows c (s.rows.length-s.piv.length) s.piv.length
     by_cases I:findRow s.rows c (s.rows.length-s.piv.length) s.piv.length=s.rows.length
     . simp only[if_pos I]
       exact ih
     . simp only [if_neg I]
       have y:=qcF s.rows c (s.rows.length-s.piv.length) s.piv.length U0
       generalize findRow s.rows c (s.rows.length-s.piv.length) s.piv.length=k at *
       have B:=g.1
       have A:∀a,a<s.piv.length->s.piv.getD a 0<cols:=fun a f=>by
        have W:=C (s.piv.getD a 0) (by rw[getD_at f];exact List.getElem_mem f)
        omega
       have u:=qdC g (i:=s.piv.length) (j:=k) U0 U0
       have r:at2 (swapRows s.rows s.piv.length k) s.piv.length c≠0:=by
        unfold at2 at y ⊢
        rw[swap_at U0 U0]
        exact y
       have V:UnitC s.piv.length (swapRows s.rows s.piv.length k) s.piv:=by
        intro i m a f
        have l:i<s.rows.length:=by unfold swapRows at m;simpa using m
        have L:=ih k U0 a f
        have M:=ih s.piv.length U0 a f
        rw[if_neg U0] at L M
        unfold swapRows
        rw[at2_set so,at2_set U0]
        by_cases D:i=k
        . rw[if_pos D,if_neg U0]
          exact M
        . rw [if_neg D]
          by_cases E:i=s.piv.length
          . rw[if_pos E,if_neg U0]
            exact L
          . rw[if_neg E]
            exact ih i l a f
       have S:(swapRows s.rows s.piv.length k).length=n:=by rw[u.1]
       generalize swapRows s.rows s.piv.length k=d at *
       obtain⟨_,v⟩:=norm_eq h.self u (i:=s.piv.length) U0 U0 r
       have o:∀ i,i<n->∀ j,j<cols->at2 (normRow O d s.piv.length c) i j=if i=s.piv.length then (if at2 d s.piv.length c=1 then at2 d i j else O.mul (O.inv (at2 d s.piv.length c)) (at2 d i j)) else at2 d i j:=by
        intro i m j R
        unfold normRow
        by_cases e:at2 d s.piv.length c=1
        . rw[if_pos e]
          by_cases b:i=s.piv.length
          . rw[if_pos b,if_pos e]
          . rw[if_neg b]
        . rw [if_neg e,at2_set U0]
          by_cases b:i=s.piv.length
          . rw[if_pos b,if_pos b,if_neg e]
            obtain⟨U,_⟩:=u.row (i:=s.piv.length) U0
            rw[getD_at (by unfold scaleRow;rw[List.length_map,U];exact R)]
            unfold scaleRow
            rw[List.getElem_map,<- getD_at]
            rw[b]
            rfl
          . rw[if_neg b,if_neg b]
       have J:at2 (normRow O d s.piv.length c) s.piv.length c=1:=by
        rw[o _ U0 c U0,if_pos rfl]
        by_cases e:at2 d s.piv.length c=1
        . rw[if_pos e]
          exact e
        . rw[if_neg e]
          have p:=u.at_ (i:=s.piv.length) (c:=c) U0 U0
          rw[h.mulC _ _ (h.invL _ p r) p,h.inv _ p r]
       have K:UnitC s.piv.length (normRow O d s.piv.length c) s.piv:=by
        intro i m a f
        rw[v.1] at m
        have z:=V i U0 a f
        rw[o i m _ (A a f)]
        by_cases e:i=s.piv.length
        . have x : ¬ i = a := by omega
          rw[if_neg x] at z
          rw[if_pos e,if_neg x]
          by_cases b:at2 d s.piv.length c=1
          . rw[if_pos b]
            exact z
          . rw[if_neg b,z]
            have p:=u.at_ (i:=s.piv.length) (c:=c) U0 U0
            rw[h.mulC _ _ (h.invL _ p r) U0,h.mulZ _ (h.invL _ p r)]
        . rw[if_neg e]
          exact z
       generalize normRow O d s.piv.length c=T at *
       obtain⟨c1,c2,N,_⟩:=clear_at h v (t:=s.piv.length) (by omega:c<cols) U0 J n (Nat.le_refl _)
       obtain⟨_,P⟩:=qdJ h.self v (c:=c) (t:=s.piv.length) U0 U0 n (Nat.le_refl _)
       rw[B]
       intro i m a f
       show at2 (clearGo O c s.piv.length T n) i ((s.piv++[c]).getD a 0)=_
       have l:i<n:=by rw[<- P.1];exact m
       have Q:a<s.piv.length+1:=by simpa using f
       by_cases e:a=s.piv.length
       . rw [show (s.piv ++ [c]).getD a 0 = c by rw [e];simp [List.getD]]
         by_cases b:i=a
         . rw[if_pos b,b,e,c2 c,J]
         . rw[if_neg b]
           exact N i l U0
       . rw[show(s.piv ++ [c]).getD a 0 = s.piv.getD a 0 by simp only[List.getD];rw[List.getElem?_append_left U0]]
         have z:=K s.piv.length (by rw[v.1];omega) a U0
         rw[if_neg U0] at z
         rw[c1 i l _ (A a U0) z]
         exact K i (by rw[v.1];omega) a U0
   . simp only[if_neg H]
     exact ih
theorem unit_canon(h:Fld q O){n cols:Nat}{rows:List (List Nat)}(b:Grid q n cols rows){i k:Nat}(c:i<(elGo O rows cols).piv.length)(d:k<(elGo O rows cols).piv.length):at2 (canonM O rows cols) i ((elGo O rows cols).piv.getD k 0)=if i=k then 1 else 0:=by unfold at2;rw[canonM_getD O rows cols i c];exact unit_elim h b cols (Nat.le_refl _) i (by have:=(elGo_piv (O:=O) rows cols).2;rw[elGo_len];omega) k d
end
end Al
end Go.Proofs.YtndipkplnkfoeaaGreat
namespace Go.Proofs.YtndipkplnkfoeaaGreat
open Go.RowKit Pln
structure GS (w:World) (b B g0 c0:Nat) (n:Int) (rows:List (List Nat)) (k:Nat) (v:Value) (bs:List (Nat × Nat)) (row:List Nat) (W:World):Prop where
 below:Below w.heap.size w W
 lo:w.heap.size<=b/\w.heap.size<=g0/\b<B/\g0<B/\b≠g0/\B<=W.heap.size
 box:W.heap[b]?=some (.cells [Y n,v].toArray 54 (0,0))
 grid:LGrid W B v rows bs k
 run:Row W w.heap.size g0 c0 (nz row)
end Go.Proofs.YtndipkplnkfoeaaGreat
namespace Go.Proofs.YtndipkplnkfoeaaGreat
open Pln
namespace Al
section
variable {q:Nat} {O:Ops} {h:Fld q O}
def fnz:List Nat->Nat
 |[]=>0
 |x :: r=>if x=0 then fnz r else x
def colOf(hs:List (List Nat))(j:Nat):List Nat:=hs.map fun r=>r.getD j 0
def normC(O:Ops)(col:List Nat):List Nat:=scaleRow O (O.inv (fnz col)) col
def ColsOk(O:Ops)(hs:List (List Nat))(n:Nat)(b:Bool):Prop:=(∀j,j<n->fnz (colOf hs j)≠0)/\(b=true->∀i j,i<j->j<n->normC O (colOf hs i)≠normC O (colOf hs j))
theorem fnz_lt(b:0<q):∀ l:List Nat,(∀ x∈l,x<q)->fnz l<q
 |[],_=>b
 |x :: r,h=>by
   unfold fnz
   split
   . exact fnz_lt b r fun y hy=>h y (List.mem_cons_of_mem _ hy)
   . exact h x List.mem_cons_self
theorem col_len(b:List (List Nat))(j:Nat):(colOf b j).length=b.length:=by simp[colOf]
theorem col_lt(g:0<q){d:List (List Nat)}(f:∀r∈d,∀x∈r,x<q)(j:Nat):∀x∈colOf d j,x<q:=by intro x b;unfold colOf at b;obtain⟨r,c,rfl⟩:=List.mem_map.1 b;exact getD_ok (f r c) g j
theorem ev_zeros(H:Fd (El q O h))(x:El q O h):∀ k,ev (List.replicate k 0) x=0
 |0=>rfl
 |k + 1=>by
   show 0+x*ev (List.replicate k 0) x=0
   rw[ev_zeros H x k,H.mulZ,H.addZ]
theorem ev_mono(H:Fd (El q O h)):∀ (k n:Nat),k<n->∃ l:List (El q O h),l.length=n/\∀ x,ev l x=pwr x k:=fun k n hk=>by
 have b:∀ (x:El q O h) (k:Nat) (l:List (El q O h)),ev (List.replicate k 0++l) x=pwr x k*ev l x:=by
  intro x k
  induction k with
  |zero=>intro l;exact(H.mulU _).symm
  |succ k ih=>
    intro l
    show 0+x*ev (List.replicate k 0++l) x=pwr x k*x*ev l x
    rw[ih,H.addZ,<- H.mulA,H.mulC x]
 refine⟨List.replicate k 0++1 :: List.replicate (n-k-1) 0,so,fun x=>?_⟩
 rw[b]
 show pwr x k*(1+x*ev (List.replicate (n-k-1) 0) x)=_
 rw[ev_zeros H,H.mulZ,H.zadd,H.umul]
end
end Al
end Go.Proofs.YtndipkplnkfoeaaGreat
namespace Go.Proofs.YtndipkplnkfoeaaGreat
open Go.RowKit Pln
structure BoxG (w:World) (a r:List Value) (W:World):Prop where
 below:Below w.heap.size w W
 size:w.heap.size+1<W.heap.size
 k0:W.heap[w.heap.size]?=some (.cells a.toArray 87 (0,0))
 k1:W.heap[w.heap.size+1]?=some (.cells r.toArray 32 (0,0))
end Go.Proofs.YtndipkplnkfoeaaGreat
namespace Go.Proofs.YtndipkplnkfoeaaGreat
open Pln
namespace Al
section
variable {q:Nat} {O:Ops} {h:Fld q O}
def cst(h:Fld q O):Nat->El q O h
 |0=>0
 |n+1=>cst h n+1
theorem qdO(a:Nat):∀ b,cst h (a+b)=cst h a+cst h b
 |0=>((El.fd (h:=h)).zadd _).symm
 |b + 1=>by
   show cst h (a+b)+1=cst h a+(cst h b+1)
   rw[qdO a b,(El.fd (h:=h)).addA]
theorem cst_mul(a:Nat):∀ b,cst h (a*b)=cst h a*cst h b
 |0=>((El.fd (h:=h)).mulZ _).symm
 |b + 1=>by
   have H:=El.fd (h:=h)
   rw[Nat.mul_succ,qdO,cst_mul a b]
   show _=cst h a*(cst h b+1)
   rw[H.dist,H.umul]
structure Chr (q:Nat) (O:Ops) (h:Fld q O) (p:Nat):Prop where
 p1:2<=p
 pq:p<=q
 add:∀a b,a<p->b<p->O.add a b=(a+b) % p
section
variable {p:Nat} (C:Chr q O h p)
theorem Chr.of(C:Chr q O h p):∀ x,x<p->El.of h x=cst h x
 |0,_=>El.of_zero
 |x + 1,hx=>by
   have hp1:=C.p1
   have b:=C.pq
   have c:=Chr.of C x U0
   have e:=C.add x 1 U0 U0
   rw[Nat.mod_eq_of_lt hx] at e
   show El.of h (x+1)=cst h x+1
   rw[<- c,<- El.of_one,<- El.of_add U0 U0,e]
theorem Chr.zero(C:Chr q O h p):cst h p=0:=by have d:=C.p1;have f:=C.pq;have e:=C.add (p-1) 1 U0 U0;rw[show p-1+1=p by omega,Nat.mod_self] at e;have b:=El.of_add (h:=h) (x:=p-1) (y:=1) U0 U0;have c:El.of h (p-1)=cst h (p-1):=C.of _ U0;rw[e,c,El.of_zero,El.of_one] at b;rw[show p=p-1+1 by omega];exact b.symm
theorem Chr.mod(C:Chr q O h p)(n:Nat):cst h (n % p)=cst h n:=by
 have H:=El.fd (h:=h);have e:cst h n=cst h (p*(n / p)+n % p):=by rw[Nat.div_add_mod]
 rw[e,qdO,cst_mul,C.zero,H.zmul,H.addZ]
end
def Es(h:Fld q O)(r:El q O h)(m:Nat)(l:List Nat):El q O h:=sm m fun j=>cst h (l.getD j 0)*pwr r j
theorem Es_step{p m:Nat}(C:Chr q O h p){r:El q O h}{md a o:List Nat}{bi:Nat}(u:0<m)(s:Dig p m o)(t:Es h r m md+pwr r m=0):
 Es h r m (stepM p m md a bi o)=r*Es h r m o+cst h bi*Es h r m a:=by
 have H:=El.fd (h:=h);obtain⟨k,rfl⟩:∃k,m=k+1:=⟨m-1,U0⟩;have b:o.getD k 0<p:=Pln.getD_lt (by have:=C.p1;omega) s k;have ht:cst h (p-o.getD k 0)=-cst h (o.getD k 0):=by refine H.negu ?_;rw[<- qdO,show o.getD k 0+(p-o.getD k 0)=p by omega,C.zero]
 have c:Es h r (k+1) (stepM p (k+1) md a bi o)=sm (k+1) (fun j=>(cst h (if j=0 then 0 else o.getD (j-1) 0)*pwr r j+-cst h (o.getD k 0)*(cst h (md.getD j 0)*pwr r j))+cst h bi*(cst h (a.getD j 0)*pwr r j)):=by
  unfold Es;refine H.sm_congr fun j hj=>?_;have e:(stepM p (k+1) md a bi o).getD j 0=((if j=0 then 0 else o.getD (j-1) 0)+(p-o.getD k 0)*md.getD j 0+bi*a.getD j 0) % p:=by unfold stepM;simp[List.getD,hj]
  rw[e,C.mod,qdO,qdO,cst_mul,cst_mul,ht,H.rdist,H.rdist,H.mulA,H.mulA]
 have d:sm (k+1) (fun j=>cst h (if j=0 then 0 else o.getD (j-1) 0)*pwr r j)+cst h (o.getD k 0)*pwr r (k+1)=r*Es h r (k+1) o:=by
  unfold Es;rw[<- H.sm_mul];have f:∀n,sm (n+1) (fun j=>cst h (if j=0 then 0 else o.getD (j-1) 0)*pwr r j)=sm n (fun j=>r*(cst h (o.getD j 0)*pwr r j)):=by
   intro n;induction n with
   |zero=>show 0+cst h (if 0=0 then 0 else o.getD (0-1) 0)*pwr r 0=0;rw[if_pos rfl];show 0+0*pwr r 0=(0:El q O h);rw[H.zmul,H.addZ]
   |succ n ih=>show sm (n+1) (fun j=>cst h (if j=0 then 0 else o.getD (j-1) 0)*pwr r j)+cst h (if n+1=0 then 0 else o.getD (n+1-1) 0)*pwr r (n+1)=sm n (fun j=>r*(cst h (o.getD j 0)*pwr r j))+r*(cst h (o.getD n 0)*pwr r n);rw[ih,if_neg U0];congr 1;show cst h (o.getD n 0)*(pwr r n*r)=_;rw[<- H.mulA,H.mulC]
  rw[f k];show _+cst h (o.getD k 0)*(pwr r k*r)=sm k (fun j=>r*(cst h (o.getD j 0)*pwr r j))+r*(cst h (o.getD k 0)*pwr r k);congr 1;rw[<- H.mulA,H.mulC]
 rw[c,H.sm_lin,H.sm_lin];congr 1;have g:sm (k+1) (fun j=>cst h (md.getD j 0)*pwr r j)=-pwr r (k+1):=by refine H.negu ?_;rw[H.addC];exact t
 rw[g,H.negm,H.mneg];have l:∀x y:El q O h,x+y+-y=x:=fun x y=>by rw[H.addA,H.addN,H.zadd]
 have i:∀x:El q O h,- -x=x:=fun x=>(H.negu (H.nadd x)).symm;rw[i,d]
theorem qdH{f:Nat->El q O h}:∀ n,sm (n+1) f=f 0+sm n fun j=>f (j+1)
 |0=>by
   have H:=El.fd (h:=h)
   show 0+f 0=f 0+0
   rw[H.addZ,H.zadd]
 |n + 1=>by
   have H:=El.fd (h:=h)
   show sm (n+1) f+f (n+1)=f 0+(sm n (fun j=>f (j+1))+f (n+1))
   rw[qdH n,H.addA]
theorem Es_ev(r:El q O h):∀ l:List Nat,ev (l.map (cst h)) r=Es h r l.length l
 |[]=>rfl
 | x :: l => by
   have H:=El.fd (h:=h)
   unfold Es
   rw[List.length_cons,qdH]
   show cst h x+r*ev (l.map (cst h)) r=_
   rw[Es_ev r l]
   congr 1
   . show _ = cst h x * 1
     rw[H.umul]
   . unfold Es
     rw[<- H.sm_mul]
     refine H.sm_congr fun j _=>?_
     show r*(cst h (l.getD j 0)*pwr r j)=cst h (l.getD j 0)*(pwr r j*r)
     rw[H.mulC r,H.mulA]
theorem Es_mul{p m:Nat}(C:Chr q O h p){r:El q O h}{md a:List Nat}(c:0<m)(d:Es h r m md+pwr r m=0):∀ b:List Nat,Es h r m (Pln.mulL p m md a b)=Es h r m a*ev (b.map (cst h)) r
 |[]=>by
   have H:=El.fd (h:=h)
   show Es h r m (List.replicate m 0)=Es h r m a*0
   rw[H.mulZ]
   refine H.sm_zero fun j hj=>?_
   have:(List.replicate m 0).getD j 0=0:=by simp[List.getD,hj]
   rw[this]
   exact H.zmul _
 |x :: b=>by
   have H:=El.fd (h:=h)
   show Es h r m (stepM p m md a x (Pln.mulL p m md a b))=Es h r m a*(cst h x+r*ev (b.map (cst h)) r)
   rw[Es_step C c (qaW (by have:=C.p1;omega) md a b) d,Es_mul C c d b,H.dist,H.addC,H.mulC (cst h x)]
   congr 1
   rw[<- H.mulA,<- H.mulA,H.mulC r]
structure Emb {p m m1:Nat} {l l1 md md1:List Nat} (hF:FT p m md l) (hF1:FT p m1 md1 l1) (r:El (p^m) (opsT p m l) (fld_of hF)):Prop where
 root:Es (fld_of hF) r m1 md1+pwr r m1=0
end
section
variable {p m m1:Nat} {l l1 md md1:List Nat} {hF:FT p m md l} {hF1:FT p m1 md1 l1} {r:El (p^m) (opsT p m l) (fld_of hF)}
theorem chr_of(hF:FT p m md l):Chr (p^m) (opsT p m l) (fld_of hF) p where
 p1:=hF.small.p1
 pq:=Nat.le_self_pow (by have:=hF.small.m1;omega) p
 add a b ha hb:=addD_small (by have:=hF.small.p1;omega) hF.small.m1 ha hb
def im(hF:FT p m md l)(m1:Nat)(r:El (p^m) (opsT p m l) (fld_of hF))(x:Nat):El (p^m) (opsT p m l) (fld_of hF):=Es (fld_of hF) r m1 (digs p m1 x)
theorem im_add(x y:Nat):im hF m1 r (addD p m1 x y)=im hF m1 r x+im hF m1 r y:=by
 have H:=El.fd (h:=fld_of hF);have d:0<p:=by have:=hF.small.p1;omega
 unfold im Es;rw[digs_add d,<- H.sm_add];refine H.sm_congr fun j hj=>?_;have e:(zw p (digs p m1 x) (digs p m1 y)).getD j 0=((digs p m1 x).getD j 0+(digs p m1 y).getD j 0) % p:=by
  have b:j<(digs p m1 x).length:=by rw[qaK];exact hj
  have c:j<(digs p m1 y).length:=by rw[qaK];exact hj
  rw[getD_at b,getD_at c,getD_at (by unfold zw;rw[List.length_zipWith];omega)];unfold zw;rw[List.getElem_zipWith]
 rw[e,(chr_of hF).mod,qdO,H.rdist]
theorem im_mul(c:Emb hF hF1 r){x y:Nat}(d:x<p^m1)(f:y<p^m1):im hF m1 r ((opsT p m1 l1).mul x y)=im hF m1 r x*im hF m1 r y:=by
 have b:1<p:=by have:=hF.small.p1;omega
 have e:(opsT p m1 l1).mul x y=mulM p m1 md1 x y:=hF1.tab.mul_eq (qaV b hF1.small.m1 md1) d f;unfold im;rw[e,mulM_dig U0,Es_mul (chr_of hF) hF1.small.m1 c.root,Es_ev,qaK]
theorem im_zero:im hF m1 r 0=0:=by have H:=El.fd (h:=fld_of hF);have h:=im_add (hF:=hF) (m1:=m1) (r:=r) 0 0;rw[addD_zero] at h;exact H.cancel (x:=im hF m1 r 0) (by rw[<- h,H.zadd])
theorem im_one(g:0<m1):im hF m1 r 1=1:=by
 have H:=El.fd (h:=fld_of hF);have b:1<p:=by have:=hF.small.p1;omega
 obtain⟨k,rfl⟩:∃k,m1=k+1:=⟨m1-1,U0⟩;unfold im Es;have e:digs p (k+1) 1=1 :: digs p k 0:=by show(1 % p :: digs p k (1 / p))=_;rw[Nat.mod_eq_of_lt b,Nat.div_eq_of_lt b]
 rw[e,H.sm_one (i:=0) U0]
 . show(cst (fld_of hF) 0+1)*1=1;rw[H.umul];exact H.addZ 1
 . intro j f d;obtain⟨i,rfl⟩:∃i,j=i+1:=⟨j-1,U0⟩;(have c:(1 :: digs p k 0).getD (i+1) 0=0:=by have:=congrFun (F_digs_zero p k) i;unfold F at this;show(digs p k 0).getD i 0=0;omega);rw[c];exact H.zmul _
theorem im_ne(g:Emb hF hF1 r){x:Nat}(d:x<p^m1)(f:x≠0):im hF m1 r x≠0:=fun e=>by
 have H:=El.fd (h:=fld_of hF)
 have b:=fld_of hF1
 have c:=im_mul g d (b.invL x d f)
 rw[b.inv x d f,im_one hF1.small.m1,e,H.zmul] at c
 exact H.ne c
def phi(hF:FT p m md l)(hF1:FT p m1 md1 l1)(r:El (p^m) (opsT p m l) (fld_of hF))(x:El (p^m1) (opsT p m1 l1) (fld_of hF1)):El (p^m) (opsT p m l) (fld_of hF):=im hF m1 r x.n
theorem phi_add(x y:El (p^m1) (opsT p m1 l1) (fld_of hF1)):phi hF hF1 r (x+y)=phi hF hF1 r x+phi hF hF1 r y:=im_add x.n y.n
theorem phi_mul(b:Emb hF hF1 r)(x y:El (p^m1) (opsT p m1 l1) (fld_of hF1)):phi hF hF1 r (x*y)=phi hF hF1 r x*phi hF hF1 r y:=im_mul b x.lt y.lt
theorem phi_zero:phi hF hF1 r 0=0:=im_zero
theorem phi_ne(c:Emb hF hF1 r){x:El (p^m1) (opsT p m1 l1) (fld_of hF1)}(b:x≠0):phi hF hF1 r x≠0:=im_ne c x.lt fun e=>b (El.eq e)
end
end Al
end Go.Proofs.YtndipkplnkfoeaaGreat
