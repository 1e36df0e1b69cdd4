/- Parts of the proof. -/
import Derived.Test.YtocbdafcolbfeaaGreatR20
import Derived.Test.YtocbdafcolbfeaaGreatR21
set_option maxRecDepth 100000
set_option maxHeartbeats 8000000
namespace Go.Proofs.YtocbdafcolbfeaaGreat
open Go.RowKit Pln
structure ExtOk (w':Wo) (p1 m1:Int) (mod1:LI) (p m:Int) (mod:LI) (n:Int) (gv:OA) (A:OA) (nA:Nat) (a:Int) (gb r:Nat):Prop where
 g:gv=some (zA gb 0)
 ok:fieldOK p m mod=true
 ok1:fieldOK p1 m1 mod1=true
 pp:p1=p
 len:nA=p1.toNat^m1.toNat
 gf:GFM w' w'.heap.size gb p.toNat m.toNat mod (lOf p m mod) (logL (lOf p m mod) (p.toNat^m.toNat))
 rq:r<p.toNat^m.toNat
 root:m1=1\/evN (opsT p.toNat m.toNat (lOf p m mod)) (mdOf m1 mod1++[1]) r=0
 im:zI w' A (nz ((List.range nA).map (imN (opsT p.toNat m.toNat (lOf p m mod)) p.toNat m1.toNat r)))
 ro:RootOk p m mod n a
 n1:1<=n
 n2:n<=64
def RelIz(w:Wo)(n:Nat)(P:Nat->Prop)(v8:Value)(wr:Wo):Prop:=∃k:Nat,k<=n/\v8=Y k/\zB w wr/\∀i,i<k->P i
theorem dotO_ltq{O:Ops}{q:Nat}(b:∀x y,x<q->y<q->O.add x y<q)(c:∀x y,x<q->y<q->O.mul x y<q):∀(s:Nat)(u v:LN),s<q->(∀x∈u,x<q)->(∀x∈v,x<q)->Dv.dotO O s u v<q
 |s,[],v,hs,_,_=>by cases v<;>exact hs
 |s,_ :: _,[],hs,_,_=>hs
 |s,x :: u,y :: v,hs,hu,hv=>dotO_ltq b c _ u v (b _ _ hs (c _ _ (hu x U2) (hv y U2))) (fun z hz=>hu z (List.mem_cons_of_mem _ hz)) (fun z hz=>hv z (List.mem_cons_of_mem _ hz))
theorem imN_lt{p m:Nat}{md l:LN}(h:FT p m md l){r:Nat}(g:r<p^m)(m1 x:Nat):imN (opsT p m l) p m1 r x<p^m:=by
 have b:=(Al.fld_of h).q1;have d:0<p:=by have:=h.small.p1;omega
 have f:p<=p^m:=Nat.le_self_pow (by have:=h.small.m1;omega) p;have c:∀x y,x<p^m->y<p^m->(opsT p m l).mul x y<p^m:=fun x y hx hy=>mulT_lt h hx hy;refine dotO_ltq (fun x y _ _=>qdR d m x y) c 0 _ _ U0 (fun y hy=>?_) (fun y hy=>?_)
 . have:=qdU d m1 x y hy;omega
 . obtain⟨k,_,rfl⟩:=List.mem_map.1 hy;exact pwN_lt c b g k
structure ExtF (p1 m1:Int) (mod1:LI) (p m:Int) (mod:LI) (n:Nat) (a r:Nat):Prop where
 ok:fieldOK p m mod=true
 ok1:fieldOK p1 m1 mod1=true
 pp:p1=p
 rq:r<p.toNat^m.toNat
 root:m1=1\/evN (opsT p.toNat m.toNat (lOf p m mod)) (mdOf m1 mod1++[1]) r=0
 aq:a<p.toNat^m.toNat
 a0:a≠0
 ord:(n:Int)=((ordT (logL (lOf p m mod) (p.toNat^m.toNat)) (p.toNat^m.toNat) a:Nat):Int)
 n1:1<=n
 n2:n<=64
end Go.Proofs.YtocbdafcolbfeaaGreat
namespace Go.Proofs.YtocbdafcolbfeaaGreat
open Go.RowKit Pln Tryz
theorem new_any(p m:Int)(mod:LI)(W:OA)(X:Nat)(cols:Nat)(rows:LL)(A:OA)(c:Nat)(w:Wo)(hM:zI w W mod)(hl:mod.length<=1000000)(hA:zR w A (nzs rows))(h1:1<=cols)(Z:errC p m mod cols (nzs rows)=0)(hN:lengthZ cols=0):
 zC 113 #[C7 p m W mod.length X,Co cols A rows.length c] w (NewPostA w p m mod cols (canonM (opsT p.toNat m.toNat (lOf p m mod)) rows cols)):=by
 have i:zK (BoxC w (C5 p m W mod.length X) (Cn cols A rows.length c) (Cd) (((w.alloc (C3 p m W mod.length X)).alloc (Cb cols A rows.length c)).alloc (Ca))):=boxC w _ _ _;have u:=zH hM;have H:=zH hA;have N:=zH hN;clear hM hA hN;go_enter func113,ntmps113;go_wp2_with fail;generalize ((w.alloc (C3 p m W mod.length X)).alloc (Cb cols A rows.length c)).alloc (Ca)=K at *;have I:=zH (canonical2_c p m mod W X cols rows A c K ((u.o.keep i.o.below).more i.o.below.size) U0 ((H.o.keep i.o.below).more i.o.below.size) h1 Z);go_fit I.o;rintro e d ⟨⟨R,VA,ck,rfl,hra,hpvx⟩,hb1⟩;clear hpvx;have D:=i.o.size;have f:=zH (i.o.keep hb1);have l:=zH ((u.o.keep f.o.below).more f.o.below.size);clear i u H I hb1;generalize canonM (opsT p.toNat m.toNat (lOf p m mod)) rows cols=b at *;have n:=zH (hra.lower (lo':=w.heap.size+1+1+1) U0);have S:w.heap.size<d.heap.size:=by have:=f.o.size;omega
 have T:w.heap.size+1<d.heap.size:=by have:=f.o.size;omega
 have g:zK (zB d (d.alloc (Cl cols R b.length b.length))):=zV.alloc zn _;have h:=zH (f.o.keep g.o);have v:=zH ((l.o.keep g.o).more g.o.size);have y:=zH (n.o.grow g.o);have s:zK ((d.alloc (Cl cols R b.length b.length)).heap[d.heap.size]?=some (.cells (D8 cols R b.length b.length).toArray 54 (0,0))):=heap_alloc_new _ _;have M:zK (d.heap.size<(d.alloc (Cl cols R b.length b.length)).heap.size):=by show _ < _;simp
 clear hra n l D;clear K;go_upto_region 3 with(refine qaH rfl 54 (.tmp 6) (.tmp 13) rfl d _ (Cm cols R b.length b.length) rfl rfl matSize rfl U3 ?_);generalize d.alloc (Cl cols R b.length b.length)=r at *;have Q:r.cell? (zA (w.heap.size+1) 0)=some (Y (cols:Int)):=cell_of_row _ _ 0 _ _ _ h.o.k1;have j:=zH (length_c cols r);rw[N.o] at j;go_wp2_with fail;go_fit j.o;rintro e V ⟨rfl,rfl⟩;have B:=zH<|qeS h.o.k0
 have C:=zH<|qeS s.o
 have x:=zH (of_any p m mod W X cols (zO R) b.length b.length r v.o hl);clear Q;go_wp2_with (first|(refine wpList_load_mid rfl 29 (.tmp 2) rfl w.heap.size 0 rfl (C5 p m W mod.length X) _ B.o underlying29 rfl fieldSize ?_)|(refine wpList_load_mid rfl 54 (.tmp 6) rfl d.heap.size 0 rfl (D8 cols R b.length b.length) _ C.o underlying54 rfl matSize ?_));go_fit x.o;rintro e E ⟨⟨A',c',rfl,hu⟩,hb4⟩;have q:=zH (h.o.keep hb4);have t:=zH q.o.k2;have J:=zH (q.o.set [Y p,Y m,zL A' mod.length c',Y (cols:Int),zS R b.length b.length]);have O:=zH hu;have z:=zH (y.o.grow hb4);have U:=h.o.size;have L:=hb4.size;clear hu hb4;go_wp2_with (refine wpList_store_row rfl 32 (.tmp 4) (.tmp 25) rfl E (w.heap.size+1+1) 32 (C6) (Cw p m A' mod.length c' cols R b.length b.length) rfl rfl t.o codeSize rfl U3 ?_);refine bodyPost_ret (results_row_one (P:=prog) rfl _ _ (w.heap.size+1+1) 32 (Cw p m A' mod.length c' cols R b.length b.length) (0,0) _ _ rfl rfl J.o.k2 underlying32 rfl codeSize) rfl ?_;refine⟨⟨A',c',_,_,rfl,?_,?_⟩,J.o.below⟩
 . have h1:IntsUp (E.setRow (w.heap.size+1+1) (Cw p m A' mod.length c' cols R b.length b.length)) r.heap.size A' mod:=O.o.of_blocks U2 fun k hk _=>setRow_other E (w.heap.size+1+1) k _ U0;exact h1.lower U0
 . exact z.o.setRow (show w.heap.size+1+1<w.heap.size+1+1+1 by omega) _
end Go.Proofs.YtocbdafcolbfeaaGreat
namespace Go.Proofs.YtocbdafcolbfeaaGreat
open Go.RowKit Pln
structure GrsOk (p m:Int) (mod:LI) (K:Int) (ps qs:LI):Prop where
 ok:fieldOK p m mod=true
 n1:1<=ps.length
 n2:ps.length<=64
 len:qs.length=ps.length
 pq:∀z∈ps,0<=z/\z<((p.toNat^m.toNat:Nat):Int)
 qq:∀z∈qs,0<=z/\z<((p.toNat^m.toNat:Nat):Int)
 dis:∀i j,j<i->i<ps.length->ps.getD i 0≠ps.getD j 0
 q0:∀z∈qs,z≠0
 k0:0<=K
 k1:K<=(ps.length:Int)
structure GrsN (p m:Int) (mod:LI) (K:Nat) (L M:LN):Prop where
 ok:fieldOK p m mod=true
 n1:1<=L.length
 n2:L.length<=64
 len:M.length=L.length
 lq:∀x∈L,x<p.toNat^m.toNat
 mq:∀x∈M,x<p.toNat^m.toNat
 dis:∀i j,j<i->i<L.length->L.getD i 0≠L.getD j 0
 m0:∀x∈M,x≠0
 k1:K<=L.length
theorem checkZ_ok{q n cols:Nat}{rows:LL}(h:Grid q n cols rows)(i:cols<=256)(j:n<=256):checkZ q (cols:Int) (nzs rows)=0:=by
 unfold checkZ;rw[if_neg (by rw[nzs_len,h.1];omega),if_neg,if_neg]
 . rw[Bool.not_eq_false,List.all_eq_true];intro r c;obtain⟨d,b,rfl⟩:=List.mem_map.1 c;unfold elemsB;rw[List.all_eq_true];intro x f;obtain⟨y,g,rfl⟩:=List.mem_map.1 f;have:=(h.2 d b).2 y g;unfold inB;simp;omega
 . rw[Bool.not_eq_false,List.all_eq_true];intro r c;obtain⟨d,b,rfl⟩:=List.mem_map.1 c;rw[qaA,(h.2 d b).1];simp
end Go.Proofs.YtocbdafcolbfeaaGreat
namespace Go.Proofs.YtocbdafcolbfeaaGreat
open Go.RowKit Pln Tryz
structure BXS (w:Wo) (bs:List (List Value)) (W:Wo):Prop where
 box:∀i cs,bs[i]?=some cs->W.heap[w.heap.size+i]?=some (.cells cs.toArray 32 (0,0))
 below:zB w W
 size:w.heap.size+bs.length<=W.heap.size
section
variable {w W W':Wo} {bs:List (List Value)}
theorem BXS.low(h:BXS w bs W){B:Nat}(b:Below B W W')(d:w.heap.size+bs.length<=B)(c:W.heap.size<=W'.heap.size):BXS w bs W':=
 ⟨fun i cs hi=>(b.block _ (by have:=(List.getElem?_eq_some_iff.1 hi).1;omega)).trans (h.box i cs hi),h.below.trans (b.mono U0),Nat.le_trans h.size c⟩
theorem BXS.grow(h:BXS w bs W)(b:zB W W'):BXS w bs W':=h.low b h.size b.size
theorem BXS.cell(h:BXS w bs W){i k:Nat}{cs:List Value}{v:Value}(b:bs[i]?=some cs)(c:cs[k]?=some v):W.cell? (zA (w.heap.size+i) k)=some v:=by rw[cell_of_row W _ k _ _ _ (h.box i cs b)];simpa using c
theorem BXS.range(h:BXS w bs W){i:Nat}{cs:List Value}(b:bs[i]?=some cs):W.rangeAt (w.heap.size+i) 0 cs:=qeS (h.box i cs b)
theorem BXS.field(h:BXS w bs W){i:Nat}{c v1 v2 f g:Value}(d:bs[i]?=some [c,v1,v2,f,g]):W.rangeAt (w.heap.size+i) 0 [c,v1,v2]:=fun j v hv=>by
 have b:=h.range d
 refine b j v ?_
 rcases j with _|_|_|j
 . exact hv
 . exact hv
 . exact hv
 . simp at hv
theorem BXS.set(h:BXS w bs W)(i:Nat)(f:i<bs.length)(d:List Value):BXS w (bs.set i d) (W.setRow (w.heap.size+i) d.toArray):=by
 obtain⟨c0,b⟩:∃c,bs[i]?=some c:=⟨_,List.getElem?_eq_getElem f⟩;refine⟨fun j cs hj=>?_,qaR h.below U0 _,by simpa using h.size⟩;by_cases e:j=i
 . subst e;rw[List.getElem?_set_self f] at hj;injection hj with hj;rw[<- hj];exact setRow_same _ _ _ _ _ (h.box j c0 b)
 . rw[List.getElem?_set_ne (fun e2=>e e2.symm)] at hj;rw[setRow_other _ _ _ _ U0];exact h.box j cs hj
end
def ConPost(w:Wo)(p m:Int)(mod:LI)(N:Nat)(F:Prop)(Q:LN->Prop)(e:Ending)(w':Wo):Prop :=
 zB w w'/\((∃z:Int,z≠0/\e=.returned (.tuple #[Da,Y z]))\/
  ∃(rows:LL)(A' R:OA)(c' k:Nat),e=.returned (.tuple #[C8 p m A' mod.length c' N R (canonM (opsT p.toNat m.toNat (lOf p m mod)) rows N).length k,Y 0])/\
   IntsUp w' w.heap.size A' mod/\RowsUp w' w.heap.size R (nzs (canonM (opsT p.toNat m.toNat (lOf p m mod)) rows N))/\Grid (p.toNat^m.toNat) rows.length N rows/\N<=64/\F/\∀r∈rows,Q r)
theorem qcD{w:Wo}{g:Nat}{A:OA}{zs:LI}(h:IntsUp w g A zs):zI w A zs:=fun hz=>by
 obtain⟨b,o,e,f,c,d⟩:=h hz
 exact⟨b,o,e,c,d⟩
theorem qeY{p m:Int}{mod:LI}{N:Nat}{rows:LL}(b:fieldOK p m mod=true)(c:Grid (p.toNat^m.toNat) rows.length N rows)(d:N<=64)(f:rows.length<=256):errC p m mod N (nzs rows)=0:=by unfold errC;rw[if_pos b];exact checkZ_ok c U0 U0
def TwoB(w:Wo)(fs rs:List Value)(W:Wo):Prop:=W.heap[w.heap.size]?=some (.cells fs.toArray 29 (0,0))/\W.heap[w.heap.size+1]?=some (.cells rs.toArray 32 (0,0))/\zB w W/\w.heap.size+1<W.heap.size
theorem TwoB.grow{w:Wo}{i j:List Value}{W W':Wo}(h:TwoB w i j W)(g:zB W W'):TwoB w i j W':=by obtain⟨c,d,f,b⟩:=h;exact⟨(g.block _ U0).trans c,(g.block _ b).trans d,f.trans (g.mono U0),Nat.lt_of_lt_of_le b g.size⟩
theorem TwoB.set{w:Wo}{i j:List Value}{W:Wo}(h:TwoB w i j W)(g:List Value):TwoB w i g (W.setRow (w.heap.size+1) g.toArray):=by obtain⟨b,c,d,f⟩:=h;exact⟨(setRow_other _ _ _ _ U0).trans b,setRow_same _ _ _ _ _ c,qaR d U0 _,by simpa using f⟩
theorem twoB(w:Wo)(b c:List Value):TwoB w b c ((w.alloc (.cells b.toArray 29)).alloc (.cells c.toArray 32)):=
 ⟨(heap_alloc_old _ _ U2).trans (heap_alloc_new _ _),alloc_at U2 _,(zV.alloc zn _).alloc U2 _,U2⟩
theorem qcM(p m:Int)(mod:LI)(E:OA)(H N:Nat)(rows:LL)(A:OA)(c:Nat)(w:Wo)(M:zI w E mod)(Q:mod.length<=1000000)(L:zR w A (nzs rows))(O:1<=N)(I:fieldOK p m mod=true)(J:Grid (p.toNat^m.toNat) rows.length N rows)(K:rows.length<=256):
 zC 80 #[C7 p m E mod.length H,Y (N:Int),zL A rows.length c] w (ConPost w p m mod N True (·∈rows)):=by
 have f:zK (TwoB w (C5 p m E mod.length H) (Cd) ((w.alloc (C3 p m E mod.length H)).alloc (Ca))):=twoB w _ _
 have v:=zH<|fun s W hW=>
  new_any p m mod E H N rows A c W ((M.keep hW).more hW.size) Q ((L.keep hW).more hW.size) O (qeY I J s K) (by unfold lengthZ;rw[if_neg U0])
 have z:=zH J;clear M L J I;go_enter func80,ntmps80;go_upto_region 1 with fail;generalize (w.alloc (C3 p m E mod.length H)).alloc (Ca)=q at *;have y:=zH f.o.2.1;by_cases s:N<=64;rotate_left
 . (have C:(64:Int)<(N:Int):=by omega);have l:=zH (f.o.set (Cd));clear v;go_wp2_with (refine wpList_store_row rfl 32 (.tmp 6) (.tmp 10) rfl q (w.heap.size+1) 32 (C6) (C6) rfl rfl y.o codeSize rfl U3 ?_);refine bodyPost_ret (results_row_one (P:=prog) rfl _ _ (w.heap.size+1) 32 (C6) (0,0) _ _ rfl rfl l.o.2.1 underlying32 rfl codeSize) rfl ?_;exact⟨l.o.2.2.1,.inl ⟨4,dc,rfl⟩⟩
 . (have C:¬(64:Int)<(N:Int):=by omega);have g:=zH (v.o s q f.o.2.2.1);(have h:=zH<|qeS f.o.1);clear v;go_wp2_with (refine wpList_load_mid rfl 29 (.tmp 3) rfl w.heap.size 0 rfl (C5 p m E mod.length H) _ h.o underlying29 rfl fieldSize ?_);go_fit g.o;rintro e t ⟨⟨A',c',R,k,rfl,hu,hru⟩,hb1⟩;have i:=zH (f.o.grow hb1);have u:=zH i.o.2.1;have l:=zH (i.o.set (C2 p m A' mod.length c' N R (canonM (opsT p.toNat m.toNat (lOf p m mod)) rows N).length k));have D:=f.o.2.2.2;have B:zK (IntsUp (t.setRow (w.heap.size+1) (Cc p m A' mod.length c' N R (canonM (opsT p.toNat m.toNat (lOf p m mod)) rows N).length k)) (q.heap.size+1+1+1) A' mod):=hu.of_blocks U2 fun j hj _=>setRow_other t (w.heap.size+1) j _ U0;have x:zK (RowsUp (t.setRow (w.heap.size+1) (Cc p m A' mod.length c' N R (canonM (opsT p.toNat m.toNat (lOf p m mod)) rows N).length k)) (q.heap.size+1+1+1) R (nzs (canonM (opsT p.toNat m.toNat (lOf p m mod)) rows N))):=hru.setRow U0 _;clear hu hru hb1 f g h y;generalize d:canonM (opsT p.toNat m.toNat (lOf p m mod)) rows N=n at *;have b:=zH d;clear d;go_wp2_with (refine wpList_store_row rfl 32 (.tmp 6) (.tmp 16) rfl t (w.heap.size+1) 32 (C6) (Cc p m A' mod.length c' N R n.length k) rfl rfl u.o codeSize rfl U3 ?_);refine bodyPost_ret (results_row_one (P:=prog) rfl _ _ (w.heap.size+1) 32 (Cc p m A' mod.length c' N R n.length k) (0,0) _ _ rfl rfl l.o.2.1 underlying32 rfl codeSize) rfl ?_;exact⟨l.o.2.2.1,.inr ⟨rows,A',R,c',k,by rw[b.o];rfl,B.o.lower U0,by rw[b.o];exact x.o.lower U0,z.o,s,trivial,fun r K=>K⟩⟩
def RowsQ(q n:Nat)(Q:LN->Prop)(W:Wo)(B:Nat)(v:Value)(k:Nat):Prop:=∃L:LL,L.length=k/\RowsOwn W B v L/\(∀r∈L,Dv.Ok q n r)/\∀r∈L,Q r
theorem RowsQ.nil(q n:Nat)(Q:LN->Prop)(W:Wo)(B:Nat):RowsQ q n Q W B (zL none 0 0) 0:=⟨[],rfl,RowsOwn.nil _ _,fun r h=>by simp at h,fun r h=>by simp at h⟩
theorem RowsQ.form{q n:Nat}{Q:LN->Prop}{W:Wo}{B:Nat}{v:Value}{k:Nat}(h:RowsQ q n Q W B v k):∃A c,v=zL A k c:=by obtain⟨L,rfl,b,_⟩:=h;obtain⟨A,c,e,_⟩:=b.up;exact⟨A,c,e⟩
theorem RowsQ.append{q n:Nat}{Q:LN->Prop}{w w1:Wo}{B:Nat}{v:Value}{k:Nat}(h:RowsQ q n Q w B v k)(t:B<=w.heap.size)(u:zB w w1){g c:Nat}{r:LN}(z:Row w1 w.heap.size g c (nz r))(y:k<=1000000)(p:Dv.Ok q n r)(s:Q r):
 ∃(A':OA)(c':Nat)(w2:Wo),(Builtin.append_ #[30,30] 30 #[v,zS w1.heap.size 1 1]).run prog (w1.alloc (.cells #[zS g r.length c] 23))=.ok (zL A' (k+1) c') w2/\Below B w w2/\w.heap.size<=w2.heap.size/\RowsQ q n Q w2 B (zL A' (k+1) c') (k+1):=by
 obtain⟨L,rfl,j,l,m⟩:=h;obtain⟨o,w2,b,d,f,i⟩:=j.append t u z y;obtain⟨A',c',rfl,_⟩:=i.up;refine⟨A',c',w2,by simpa using b,d,f,L++[r],U2,by simpa using i,fun x hx=>?_,fun x hx=>?_⟩
 . rcases List.mem_append.1 hx with hx|hx
   . exact l x hx
   . simp at hx;subst hx;exact p
 . rcases List.mem_append.1 hx with hx|hx
   . exact m x hx
   . simp at hx;subst hx;exact s
theorem qbO{w:Wo}{b:Nat}{cs:List Value}(h:w.rangeAt b 0 cs)(o:Nat)(f:List Value)(hd:∀j,j<f.length->cs[o+j]?=f[j]?):w.rangeAt b o f:=fun j v hv=>by
 have d:=(List.getElem?_eq_some_iff.1 hv).1
 have c:=hd j d
 rw[hv] at c
 have:=h (o+j) v c
 rw[Nat.zero_add] at this
 exact this
theorem qbW{p m:Int}{mod:LI}{n:Nat}{l:List LI}(h:codeZ p m mod (n:Int) l=0):l.length<=n/\1<=n/\n<=64/\mod.length<=1000/\fieldOK p m mod=true/\Grid (p.toNat^m.toNat) l.length n (natR l)/\nzs (natR l)=l:=by obtain⟨d,i,j,f,b,k,g,_,_,c⟩:=codeZ_is h;rw[Int.toNat_natCast] at b c;rw[natR_len] at c b;exact⟨c,U0,U0,g,d,b,f⟩
theorem row_at{w:Wo}{G:OA}{l:List LI}{q n:Nat}(h:zR w G l)(p:Grid q l.length n (natR l))(r:nzs (natR l)=l){j:Nat}(m:j<l.length):
 ∃(b o:Nat)(Ai:OA)(ci:Nat)(u:LN),G=some (zA b o)/\b<w.heap.size/\w.cell? (zA b (o+j))=some (zL Ai u.length ci)/\zI w Ai (nz u)/\u∈natR l/\Dv.Ok q n u:=by
 rw[<- r] at h;obtain⟨b,o,Ai,ci,e,k,c,f⟩:=h.at_ (i:=j) (by rw[nzs_len,natR_len];exact m);rw[nzs_getD] at c f;rw[qaA] at c;have d:j<(natR l).length:=by rw[natR_len];exact m
 have g:(natR l).getD j []∈natR l:=by rw[show(natR l).getD j []=(natR l)[j] by simp[List.getD,d]];exact List.getElem_mem _
 exact⟨b,o,Ai,ci,_,e,k,c,f,g,p.2 _ g⟩
end Go.Proofs.YtocbdafcolbfeaaGreat
namespace Go.Proofs.YtocbdafcolbfeaaGreat
open Go.RowKit Pln
def RelP1(W0:Wo)(q n:Nat)(Q:LN->Prop)(len2 len:Nat)(v9 vi:Value)(wr:Wo):Prop:=
 ∃j k:Nat,j<=len/\k=j*len2/\vi=Y j/\zB W0 wr/\W0.heap.size<=wr.heap.size/\RowsQ q n Q wr W0.heap.size v9 k
def RelP2(W0:Wo)(q n:Nat)(Q:LN->Prop)(k0 len2:Nat)(v9 vi:Value)(wr:Wo):Prop:=
 ∃j k:Nat,j<=len2/\k=k0+j/\vi=Y j/\zB W0 wr/\W0.heap.size<=wr.heap.size/\RowsQ q n Q wr W0.heap.size v9 k
theorem own_keepX{w w':Wo}{B n:Nat}{e:TypeId}{s:Nat}{v:Value}{xs:List Value}(h:w.ownsRow B e s v n xs)(k:zB w w'):w'.ownsRow B e s v n xs:=by
 refine⟨h.1,?_⟩;rcases h.2 with⟨d,f⟩|⟨g,b,cur,j,i,c,r⟩
 . exact .inl ⟨d,f⟩
 . exact .inr ⟨g,b,cur,j,i,(k.block g (block_lt c)).trans c,r⟩
theorem opsS_self{p m:Nat}{md l:LN}(h:FT p m md l):OpsEq (p^m) (opsT p m l) (opsT p m l):=(Al.fld_of h).self
end Go.Proofs.YtocbdafcolbfeaaGreat
namespace Go.Proofs.YtocbdafcolbfeaaGreat
open Go.RowKit Pln Tryz
theorem sub_c(x y s p m B:Nat)(md l:LN)(w:Wo)(hF:FT p m md l)(t:GFAt w B s p m l (logL l (p^m)))(_:B<=w.heap.size)(u:x<p^m)(v:y<p^m):
 zC 76 (Cf s x y) w (Quiet (Y (((opsT p m l).add x ((opsT p m l).neg y):Nat):Int)) w):=by
 have h:=zH (neg_c y s p m B l _ w hF.small t v);have d:negD p m y<p^m:=qdP (by have:=hF.small.p1;omega) m y
 have g:=zH<|fun n=>
  add_c x (negD p m y) s p m B l _ (w.drewN n) hF.small (t.keep (qaB zV n)) u d
 clear hF t u v d;show Calls _ _ _ _ (Quiet (Y ((addD p m x (negD p m y):Nat):Int)) w);generalize negD p m y=j at *;generalize addD p m x j=r at *;go_enter func76,ntmps76;go_wp2_with fail;go_fit h.o;rintro e k ⟨rfl,n1,rfl⟩;have b:=zH (g.o n1);clear g h;obtain⟨i,c⟩:∃i,i=w.drewN n1:=⟨_,rfl⟩;rw[<- c] at b ⊢;have f:=zH c;clear c;go_wp2_with fail;go_fit b.o;rintro e q ⟨rfl,n2,rfl⟩;clear b;go_wp2;go_ret;exact⟨rfl,n1+n2,by rw[f.o,World.drewN_drewN]⟩
def zwK(f:Nat->Nat->Nat)(a b:LN)(t:Nat):LN:=(List.zipWith f a b).take t++a.drop t
theorem zwK_zero(f:Nat->Nat->Nat)(a b:LN):zwK f a b 0=a:=by simp[zwK]
theorem zwK_len{f:Nat->Nat->Nat}{a b:LN}(h:a.length=b.length){t:Nat}(c:t<=a.length):(zwK f a b t).length=a.length:=by unfold zwK;rw[List.length_append,List.length_take,List.length_zipWith,List.length_drop];omega
theorem zwK_all{f:Nat->Nat->Nat}{a b:LN}(h:a.length=b.length):zwK f a b a.length=List.zipWith f a b:=by unfold zwK;rw[List.drop_length,List.append_nil,List.take_of_length_le (by rw[List.length_zipWith];omega)]
theorem zwK_at{f:Nat->Nat->Nat}{a b:LN}(h:a.length=b.length){t:Nat}(c:t<a.length):(zwK f a b t).getD t 0=a.getD t 0:=by unfold zwK;simp only[List.getD];rw[List.getElem?_append_right (by rw[List.length_take,List.length_zipWith];omega),List.length_take,List.length_zipWith,show t-min t (min a.length b.length)=0 by omega,List.getElem?_drop,Nat.add_zero]
theorem zwK_get{f:Nat->Nat->Nat}{a b:LN}(h:a.length=b.length){t:Nat}(g:t<=a.length)(i:Nat):(zwK f a b t)[i]?=if i<t then(List.zipWith f a b)[i]? else a[i]?:=by
 have d:((List.zipWith f a b).take t).length=t:=by rw[List.length_take,List.length_zipWith];omega
 unfold zwK;by_cases c:i<t
 . rw[if_pos c,List.getElem?_append_left U0,List.getElem?_take_of_lt c]
 . rw[if_neg c,List.getElem?_append_right U0,d,List.getElem?_drop,show t+(i-t)=i by omega]
theorem zwK_set{f:Nat->Nat->Nat}{a b:LN}(h:a.length=b.length){t:Nat}(g:t<a.length):(zwK f a b t).set t (f (a.getD t 0) (b.getD t 0))=zwK f a b (t+1):=by
 have d:t<b.length:=U0;apply List.ext_getElem?;intro i;rw[List.getElem?_set,zwK_get h U0,zwK_get h U0,zwK_len h U0];by_cases e:t=i
 . subst e;rw[if_pos rfl,if_pos g,if_pos U0,List.getElem?_eq_getElem (by rw[List.length_zipWith];omega),List.getElem_zipWith];simp[List.getD,g,d]
 . rw[if_neg e];by_cases c:i<t
   . rw[if_pos c,if_pos U0]
   . rw[if_neg c,if_neg U0]
def subF(O:Ops)(y:Nat)(a b:Nat):Nat:=O.add a (O.neg (O.mul y b))
theorem subF_ok{q n:Nat}{O:Ops}(h:Al.Fld q O){y:Nat}(p:y<q){a b:LN}(m:Dv.Ok q n a)(o:Dv.Ok q n b):Dv.Ok q n (List.zipWith (subF O y) a b)/\∀ j,Al.wd h (List.zipWith (subF O y) a b) j=Al.wd h a j+-(Al.El.of h y*Al.wd h b j):=by
 have H:=Al.El.fd (h:=h);have k:=h.q1;refine⟨⟨by rw[List.length_zipWith,m.1,o.1,Nat.min_self],fun x hx=>?_⟩,fun j=>?_⟩
 . obtain⟨i,g,rfl⟩:=List.mem_iff_getElem.1 hx;rw[List.getElem_zipWith];rw[List.length_zipWith] at g;have d:=m.2 _ (List.getElem_mem (show i<a.length by omega));have c:=o.2 _ (List.getElem_mem (show i<b.length by omega));exact h.addL _ _ d (h.negL _ (h.mulL _ _ p c))
 . unfold Al.wd;by_cases f:j<n
   . (have e:(List.zipWith (subF O y) a b).getD j 0=subF O y (a.getD j 0) (b.getD j 0):=by rw[Al.getD_at (l:=a) (by rw[m.1];exact f),Al.getD_at (l:=b) (by rw[o.1];exact f),Al.getD_at (l:=List.zipWith (subF O y) a b) (by rw[List.length_zipWith,m.1,o.1];omega),List.getElem_zipWith]);have d:=Al.getD_ok m.2 U0 j;have c:=Al.getD_ok o.2 U0 j;rw[e];unfold subF;rw[Al.El.of_add d (h.negL _ (h.mulL _ _ p c)),Al.El.of_neg (h.mulL _ _ p c),Al.El.of_mul p c]
   . rw[qaZ (by rw[List.length_zipWith,m.1,o.1];omega),qaZ (by rw[m.1];omega),qaZ (by rw[o.1];omega),Al.El.of_zero,H.mulZ,H.negz,H.addZ]
end Go.Proofs.YtocbdafcolbfeaaGreat
namespace Go.Proofs.YtocbdafcolbfeaaGreat
open Go.RowKit Pln
open Al (ColsOk)
def opsS(d:StD):Ops:=opsT d.p.toNat d.m.toNat (lOf d.p d.m d.mod)
def ItPost(w:Wo)(P:Prop)(e:Ending)(w':Wo):Prop:=(∃b:Bool,e=.returned (.bool b)/\(b=true->P))/\zB w w'
theorem qbG{d:StD}(b:formZ d=0):codeZ d.p d.m d.mod d.n d.gen=0:=by
 unfold formZ at b;split at b
 . rename_i hz;exact absurd b hz
 . rename_i hz;exact Classical.byContradiction hz
theorem form_err{d:StD}(c:formZ d=0):errC d.p d.m d.mod d.n d.gen=0:=by
 obtain⟨_,_,b⟩:=codeZ_n (qbG c);unfold spZ at b;split at b
 . rename_i he;exact absurd b he
 . rename_i he;exact Classical.byContradiction he
theorem ker_grid{q n cols:Nat}{O:Ops}(h:Al.Fld q O){rows:LL}(d:Grid q n cols rows):(kerM O rows cols).length<=cols/\∀r∈kerM O rows cols,r.length=cols/\∀x∈r,x<q:=by have b:=canon_grid h.self d;have c:=kerRows_grid (piv:=(elGo O rows cols).piv) h.self h.q1 b rfl;refine⟨?_,(canon_grid h.self c).2⟩;unfold kerM;rw[canonM_len];exact(elGo_piv _ _).1
end Go.Proofs.YtocbdafcolbfeaaGreat
namespace Go.Proofs.YtocbdafcolbfeaaGreat
open Go.RowKit Pln
open Al
theorem combO_eq{q n:Nat}{O l:Ops}(E:OpsEq q O l){rows:LL}(k:∀ r∈rows,Dv.Ok q n r):∀ (msg out:LN),(∀ x∈msg,x<q)->Dv.Ok q n out->Dv.combO l out msg rows=Dv.combO O out msg rows:=by
 induction rows with
 |nil=>intro msg out _ _;cases msg<;>rfl
 |cons r rs ih=>
  intro msg out c d;cases msg with
  |nil=>rfl
  |cons x xs=>
   unfold Dv.combO;obtain⟨i,j⟩:=k r List.mem_cons_self;have h:=c x List.mem_cons_self;obtain⟨f,g⟩:=qdB E h d.2 j;by_cases b:x=0
   . rw[if_pos b,if_pos b];exact ih (fun y hy=>k y (List.mem_cons_of_mem _ hy)) xs out (fun y hy=>c y (List.mem_cons_of_mem _ hy)) d
   . rw[if_neg b,if_neg b,<- f];exact ih (fun y hy=>k y (List.mem_cons_of_mem _ hy)) xs _ (fun y hy=>c y (List.mem_cons_of_mem _ hy)) ⟨by unfold Pln.addRow;rw[List.length_zipWith,d.1,i,Nat.min_self],g⟩
theorem cw_lin{s:StD}(u:formZ s=0){hfl:Fld (s.p.toNat^s.m.toNat) (opsS s)}{Q:(Nat->El (s.p.toNat^s.m.toNat) (opsS s) hfl)->Prop}(L:LinF (s.p.toNat^s.m.toNat) (opsS s) hfl Q)(v:∀r∈natR s.gen,Q (wd hfl r)){q:LN}(t:∀x∈q,x<s.p.toNat^s.m.toNat):
 Q (wd hfl (cwO s.p.toNat s.m.toNat (mdOf s.m s.mod) s.n.toNat (natR s.gen) q))/\Dv.Ok (s.p.toNat^s.m.toNat) s.n.toNat (cwO s.p.toNat s.m.toNat (mdOf s.m s.mod) s.n.toNat (natR s.gen) q):=by
 have f:=form_is u;have c:=field_ft f.field;have l:=(fld_of c).q1;have g:(mdOf s.m s.mod).length=s.m.toNat:=by
  have o:=qeU (by have h:=f.field;unfold fieldOK at h;rw[Bool.and_eq_true] at h;exact h.1:shapeM s.p s.m s.mod=true);by_cases b:s.m=1
  . rw[b];simp[mdOf]
  . unfold mdOf;rw[if_neg b,List.length_map,o.len b]
 have k:Dv.Ok (s.p.toNat^s.m.toNat) s.n.toNat (List.replicate s.n.toNat 0):=⟨U2,fun x hx=>by rw[(List.mem_replicate.1 hx).2];omega⟩;have d:∀r∈natR s.gen,Dv.Ok (s.p.toNat^s.m.toNat) s.n.toNat r:=fun r h=>f.grid.2 r h;have i:OpsEq (s.p.toNat^s.m.toNat) (opsS s) (refOps s.p.toNat s.m.toNat (mdOf s.m s.mod)):=ops_eq c g;have e:=combO_eq i d q _ t k;unfold cwO;rw[e];refine L.comb (fun r h=>⟨d r h,v r h⟩) q _ t k ?_;rw[show wd hfl (List.replicate s.n.toNat 0)=fun _=>0 from funext fun j=>qeH _ _];exact L.zero
theorem form_canon{d:StD}(f:formZ d=0):canonM (opsS d) (natR d.gen) d.n.toNat=natR d.gen:=by
 obtain⟨_,_,b⟩:=codeZ_n (qbG f);unfold spZ at b;rw[if_neg (by rw[form_err f];simp)] at b;split at b
 . rename_i h;have c:natR (nzs (canZ d.p d.m d.mod d.n d.gen))=canZ d.p d.m d.mod d.n d.gen:=natR_nzs _;rw[h] at c;exact c.symm
 . cases b
section
variable {q:Nat} {O:Ops} {h:Fld q O}
theorem ev_sm(x:El q O h):∀ l:List (El q O h),ev l x=sm l.length fun j=>l.getD j 0*pwr x j
 |[]=>rfl
 |a :: l=>by
   have H:=El.fd (h:=h)
   show a+x*ev l x=_
   rw[ev_sm x l,List.length_cons,qdH]
   show a+x*_=a*1+sm l.length fun j=>l.getD j 0*(pwr x j*x)
   rw[H.mulC a 1,H.mulU,<- H.sm_mul]
   congr 1
   exact H.sm_congr fun j _=>by rw[<- H.mulA,<- H.mulA,H.mulC x];rw[H.mulA,H.mulA,H.mulC x]
theorem of_pwN{r:Nat}(b:r<q):∀ k,El.of h (pwN O r k)=pwr (El.of h r) k
 |0=>El.of_one
 |k + 1=>by
   show El.of h (O.mul (pwN O r k) r)=pwr (El.of h r) k*El.of h r
   rw[El.of_mul (pwN_lt h.mulL h.q1 b k) b,of_pwN b k]
theorem evN_lt(h:Fld q O){v:LN}(c:∀a∈v,a<q){x:Nat}(d:x<q):evN O v x<q:=by
 induction v with
 |nil=>have:=h.q1;show 0<q;omega
 |cons a r ih=>exact h.addL _ _ (h.mulL _ _ (ih fun b hb=>c b (List.mem_cons_of_mem _ hb)) d) (c a List.mem_cons_self)
theorem of_evN{x:Nat}(g:x<q):∀ v:LN,(∀ a∈v,a<q)->El.of h (evN O v x)=ev (v.map (El.of h)) (El.of h x)
 |[],_=>El.of_zero
 |a :: r,hv=>by
   have H:=El.fd (h:=h)
   have d:=fun b hb=>hv b (List.mem_cons_of_mem _ hb)
   have f:=hv a List.mem_cons_self
   have c:=evN_lt h d g
   show El.of h (O.add (O.mul (evN O r x) x) a)=El.of h a+El.of h x*ev (r.map (El.of h)) (El.of h x)
   rw[El.of_add (h.mulL _ _ c g) f,El.of_mul c g,of_evN g r d,H.addC,H.mulC (ev _ _)]
theorem of_dotO:∀ (s:Nat)(u v:LN),s<q->(∀ x∈u,x<q)->(∀ x∈v,x<q)->u.length=v.length->El.of h (Dv.dotO O s u v)=El.of h s+sm u.length (fun j=>El.of h (u.getD j 0)*El.of h (v.getD j 0))
 |s,[],v,_,_,_,hl=>by
   have H:=El.fd (h:=h)
   have:v=[]:=List.length_eq_zero_iff.1 hl.symm
   subst this
   show El.of h s=El.of h s+0
   rw[H.zadd]
 |s,x :: u,[],_,_,_,hl=>by simp at hl
 |s,x :: u,y :: v,hs,hu,hv,hl=>by
   have H:=El.fd (h:=h)
   have b:=hu x List.mem_cons_self
   have c:=hv y List.mem_cons_self
   show El.of h (Dv.dotO O (O.add s (O.mul x y)) u v)=_
   rw[of_dotO _ u v (h.addL _ _ hs (h.mulL _ _ b c)) (fun z hz=>hu z (List.mem_cons_of_mem _ hz)) (fun z hz=>hv z (List.mem_cons_of_mem _ hz)) (by simpa using hl),El.of_add hs (h.mulL _ _ b c),El.of_mul b c,List.length_cons,qdH,H.addA]
   rfl
end
section
variable {p m m1:Nat} {md l md1 l1:LN}
theorem of_imN(hF:FT p m md l){r:Nat}(f:r<p^m)(m1 x:Nat):El.of (fld_of hF) (imN (opsT p m l) p m1 r x)=im hF m1 (El.of (fld_of hF) r) x:=by
 have H:=El.fd (h:=fld_of hF);have b:=(fld_of hF).q1;have c:0<p:=by have:=hF.small.p1;omega
 have d:p<=p^m:=Nat.le_self_pow (by have:=hF.small.m1;omega) p;unfold imN
 rw[of_dotO 0 _ _ U0 (fun y hy=>by have:=qdU c m1 x y hy;omega) (fun y hy=>by
  obtain⟨k,_,rfl⟩:=List.mem_map.1 hy
  exact pwN_lt (fld_of hF).mulL b f k) (by rw[qaK,qcU]),El.of_zero,H.addZ,qaK]
 unfold im Es;refine H.sm_congr fun j hj=>?_;rw[pwL_at _ _ _ _ hj,of_pwN f,(chr_of hF).of];rw[getD_at (by rw[qaK];exact hj)];exact qdU c m1 x _ (List.getElem_mem _)
theorem log_of(hF:FT p m md l){x:Nat}(C:x<p^m)(B:x≠0):∃G:El (p^m) (opsT p m l) (fld_of hF),pwr G (p^m-1)=1/\(∀i j,i<p^m-1->j<p^m-1->pwr G i=pwr G j->i=j)/\El.of (fld_of hF) x=pwr G ((logL l (p^m)).getD x 0)/\∀i,i<p^m-1->El.of (fld_of hF) (l.getD i 0)=pwr G i:=by
 have H:=El.fd (h:=fld_of hF);have z:=(fld_of hF).q1;have d:=qaV (p:=p) (m:=m) (by have:=hF.small.p1;omega) hF.small.m1 md;obtain⟨g,A,q,u,v⟩:=hF.tab.get;have b:∀k,El.of (fld_of hF) (pw (mulM p m md) g k)=pwr (El.of (fld_of hF) g) k:=by
  intro k;induction k with
  |zero=>exact El.of_one
  |succ k ih=>have r:=pw_lt d g k;show El.of (fld_of hF) (mulM p m md (pw (mulM p m md) g k) g)=_;rw[<- hF.tab.mul_eq d r q];show El.of (fld_of hF) ((opsT p m l).mul (pw (mulM p m md) g k) g)=_;rw[El.of_mul r q,ih];rfl
 have c:∀i,i<p^m-1->El.of (fld_of hF) (l.getD i 0)=pwr (El.of (fld_of hF) g) i:=fun i hi=>by rw[v i hi,b]
 obtain⟨s,t⟩:=hF.tab.log d B C;refine⟨El.of (fld_of hF) g,by rw[<- b,u,El.of_one],fun i j hi hj e=>?_,?_,c⟩
 . rw[<- c i hi,<- c j hj] at e;have y:=hF.tab.len;(have f:l.getD i 0=l[i]'U0:=by simp[List.getD,show i<l.length by omega]);(have n:l.getD j 0=l[j]'U0:=by simp[List.getD,show j<l.length by omega]);have o:=El.of_inj (by rw[f];exact hF.tab.lt _ (List.getElem_mem _)) (by rw[n];exact hF.tab.lt _ (List.getElem_mem _)) e;rw[f,n] at o;exact(List.getElem_inj hF.tab.nd).1 o
 . rw[<- c _ s,t]
theorem of_powT(hF:FT p m md l){x:Nat}(k:x<p^m)(j:x≠0)(n:Nat):El.of (fld_of hF) (powT l (logL l (p^m)) (p^m) x n)=pwr (El.of (fld_of hF) x) n:=by
 have H:=El.fd (h:=fld_of hF);have i:=(fld_of hF).q1;obtain⟨G,d,_,b,g⟩:=log_of hF k j;unfold powT;by_cases f:n=0
 . subst f;rw[if_pos rfl];exact El.of_one
 . rw[if_neg f,if_neg j,b,g _ (Nat.mod_lt _ U0),<- H.pwr_mul,H.pwr_mod d,H.pwr_mul,H.pwr_mul,<- b];(have c:pwr (El.of (fld_of hF) x) (p^m-1)=1:=by rw[b,<- H.pwr_mul,Nat.mul_comm,H.pwr_mul,d,H.pwr_one]);exact H.pwr_mod c n
end
end Go.Proofs.YtocbdafcolbfeaaGreat
