/- Parts of the proof. -/
import Derived.Test.YtndipkplnkfoeaaGreatR18
set_option maxRecDepth 100000
set_option maxHeartbeats 8000000
namespace Go.Proofs.YtndipkplnkfoeaaGreat
open Go.RowKit Pln
structure ExtOk (w':World) (p1 m1:Int) (mod1:List Int) (p m:Int) (mod:List Int) (n:Int) (gv:Option Addr) (A:Option Addr) (nA:Nat) (a:Int) (gb r:Nat):Prop where
 g:gv=some (zA gb 0)
 ok:fieldOK p m mod=true
 ok1:fieldOK p1 m1 mod1=true
 pp:p1=p
 len:nA=p1.toNat^m1.toNat
 gf:GFM w' w'.heap.size gb p.toNat m.toNat mod (lOf p m mod) (logL (lOf p m mod) (p.toNat^m.toNat))
 rq:r<p.toNat^m.toNat
 root:m1=1\/evN (opsT p.toNat m.toNat (lOf p m mod)) (mdOf m1 mod1++[1]) r=0
 im:IntsAt w' w'.heap.size A (nz ((List.range nA).map (imN (opsT p.toNat m.toNat (lOf p m mod)) p.toNat m1.toNat r)))
 ro:RootOk p m mod n a
 n1:1<=n
 n2:n<=64
theorem dotO_ltq{O:Ops}{q:Nat}(b:∀x y,x<q->y<q->O.add x y<q)(c:∀x y,x<q->y<q->O.mul x y<q):∀(s:Nat)(u v:List Nat),s<q->(∀x∈u,x<q)->(∀x∈v,x<q)->Dv.dotO O s u v<q
 |s,[],v,hs,_,_=>by cases v<;>exact hs
 |s,_ :: _,[],hs,_,_=>hs
 |s,x :: u,y :: v,hs,hu,hv=>dotO_ltq b c _ u v (b _ _ hs (c _ _ (hu x U2) (hv y U2))) (fun z hz=>hu z (List.mem_cons_of_mem _ hz)) (fun z hz=>hv z (List.mem_cons_of_mem _ hz))
theorem imN_lt{p m:Nat}{md l:List Nat}(h:FT p m md l){r:Nat}(g:r<p^m)(m1 x:Nat):imN (opsT p m l) p m1 r x<p^m:=by
 have b:=(Al.fld_of h).q1;have d:0<p:=by have:=h.small.p1;omega
 have f:p<=p^m:=Nat.le_self_pow (by have:=h.small.m1;omega) p;have c:∀x y,x<p^m->y<p^m->(opsT p m l).mul x y<p^m:=fun x y hx hy=>mulT_lt h hx hy;refine dotO_ltq (fun x y _ _=>qdR d m x y) c 0 _ _ U0 (fun y hy=>?_) (fun y hy=>?_)
 . have:=qdU d m1 x y hy;omega
 . obtain⟨k,_,rfl⟩:=List.mem_map.1 hy;exact pwN_lt c b g k
structure ExtF (p1 m1:Int) (mod1:List Int) (p m:Int) (mod:List Int) (n:Nat) (a r:Nat):Prop where
 ok:fieldOK p m mod=true
 ok1:fieldOK p1 m1 mod1=true
 pp:p1=p
 rq:r<p.toNat^m.toNat
 root:m1=1\/evN (opsT p.toNat m.toNat (lOf p m mod)) (mdOf m1 mod1++[1]) r=0
 aq:a<p.toNat^m.toNat
 a0:a≠0
 ord:(n:Int)=((ordT (logL (lOf p m mod) (p.toNat^m.toNat)) (p.toNat^m.toNat) a:Nat):Int)
 n1:1<=n
 n2:n<=64
theorem clone_any(zs:List Int)(A:Option Addr)(c:Nat)(w:World)(o:IntsAt w w.heap.size A zs)(p:zs.length<=1000000):
 zC 74 #[zL A zs.length c] w fun e w'=>(∃(A':Option Addr)(c':Nat),e=.returned (zL A' zs.length c')/\IntsUp w' w.heap.size A' zs)/\Below w.heap.size w w':=by
 rcases Nat.eq_zero_or_pos zs.length with h0|h0
 . have l : zs = []:=List.length_eq_zero_iff.1 h0;subst l;have f:∀(W:World)(A':Option Addr),IntsUp W w.heap.size A' []:=fun W A' h=>absurd h U2;clear o p h0;cases A with
   |none=>have k:∀(W:World),(binOp .eql 23 (zL none 0 c) (zL none 0 0)).run Tryz.prog W=.ok (.bool true) W:=fun W=>Lib.run_eql_slice_nil W 23 3 none 0 c 0 0 Tryz.underlying23;go_enter Tryz.func74,Tryz.ntmps74;go_wp2_with fail;go_ret;exact⟨⟨none,0,rfl,f _ _⟩,Below.refl _ _⟩
   |some ad=>have k:∀(W:World),(binOp .eql 23 (zL (some ad) 0 c) (zL none 0 0)).run Tryz.prog W=.ok (.bool false) W:=fun W=>Lib.run_eql_slice_nil W 23 3 (some ad) 0 c 0 0 Tryz.underlying23;have m:Hid (Below w.heap.size w (w.alloc (.cells #[] 3))):=(Below.refl _ _).alloc (Nat.le_refl _) _;obtain⟨A',c',w',b,_,n⟩:=run_copy_ints 23 w.heap.size (some ad) c [] (w.alloc (.cells #[] 3)) (fun h=>absurd h U2) U2;have d:=zH b;have i:=zH (m.out.trans (n.mono m.out.size));clear b n;go_enter Tryz.func74,Tryz.ntmps74;go_wp2_with (at_builtin;refine qaP rfl (.tmp 5) (.tmp 6) 23 rfl rfl rfl d.out ?_);go_ret;exact⟨⟨A',c',rfl,f _ _⟩,i.out⟩
 . exact(sclone_c zs A c w o h0 p).mono fun e w' ⟨⟨g,c',h1,h2⟩,h3⟩=>⟨⟨_,c',h1,fun hz=>⟨g,0,rfl,h2.lt.1,h2.lt.2,fun j hj=>by rw[Nat.zero_add];exact h2.cell hj⟩⟩,h3⟩
theorem own_any(p m:Int)(mod:List Int)(B:Option Addr)(C:Nat)(w:World)(D:IntsAt w w.heap.size B mod)(E:mod.length<=1000000):
 zC 201 #[Ch p m B mod.length C] w fun e w'=>(∃(A':Option Addr)(c':Nat),e=.returned (Ch p m A' mod.length c')/\IntsUp w' w.heap.size A' mod)/\Below w.heap.size w w':=by
 have b:Hid (Below w.heap.size w ((w.alloc (Ce p m B mod.length C)).alloc (Cz))):=((Below.refl _ _).alloc (Nat.le_refl _) _).alloc U2 _;have c:Hid (w.heap.size+1<((w.alloc (Ce p m B mod.length C)).alloc (Cz)).heap.size):=by show _ < _;simp
 have j:Hid (((w.alloc (Ce p m B mod.length C)).alloc (Cz)).heap[w.heap.size]?=some (.cells (Ci p m B mod.length C).toArray 29 (0,0))):=(heap_alloc_old _ _ U2).trans (heap_alloc_new _ _);have l:Hid (((w.alloc (Ce p m B mod.length C)).alloc (Cz)).heap[w.heap.size+1]?=some (Cz)):=alloc_at U2 _;have r:=zH D;clear D;go_enter Tryz.func201,Tryz.ntmps201;go_wp2_with fail;generalize (w.alloc (Ce p m B mod.length C)).alloc (Cz)=t at *;have q:=zH (clone_any mod B C t ((r.out.keep b.out).more b.out.size) E);(with_reducible refine q.out.mono ?_);rintro e d ⟨⟨A',c',rfl,hup⟩,hb1⟩;have h:=zH (b.out.trans (hb1.mono b.out.size));have f:=(hb1.block w.heap.size (by have:=c.out;omega)).trans j.out;have u:=(hb1.block (w.heap.size+1) c.out).trans l.out;have A:d.cell? (zA w.heap.size 2)=some (zL B mod.length C):=cell_of_row _ _ 2 _ _ _ f;have y:d.frozen? (zA w.heap.size 2)=false:=by simp[World.frozen?,f]
 have x:=zH (heap_set_same f 2 (zL A' mod.length c'));have s:=zH ((Below.heap_setCell d (zA w.heap.size 2) (zL A' mod.length c') (w.heap.size+1) (by show w.heap.size+1≠w.heap.size;omega)).trans u);have i:=zH (h.out.setCell (p:=(zA w.heap.size 2)) (Nat.le_refl _) (zL A' mod.length c'));have z:=c.out;have v:Hid (IntsUp (d.setCell (zA w.heap.size 2) (zL A' mod.length c')) t.heap.size A' mod):=hup.of_blocks U2 fun k hk _=>Below.heap_setCell d (zA w.heap.size 2) _ k (by show k≠w.heap.size;omega);clear hup hb1 f u q r;go_upto_region 2 with fail;generalize d.setCell (zA w.heap.size 2) (zL A' mod.length c')=g at *;clear A y;have o:Hid (g.rangeAt w.heap.size 0 (Ci p m A' mod.length c')):=range_of_row x.out;have n:Hid ((g.setRow (w.heap.size+1) #[Y p,Y m,zL A' mod.length c']).heap[w.heap.size+1]?=some (Ce p m A' mod.length c')):=setRow_same _ _ _ _ _ s.out;go_wp2_with (first|(refine wpList_load_mid rfl 29 (.tmp 1) rfl w.heap.size 0 rfl (Ci p m A' mod.length c') _ o.out Tryz.underlying29 rfl fieldSize ?_)|(refine wpList_store_row rfl 29 (.tmp 2) (.tmp 7) rfl g (w.heap.size+1) 29 #[Y 0,Y 0,zL none 0 0] #[Y p,Y m,zL A' mod.length c'] rfl rfl s.out fieldSize rfl sc ?_));refine bodyPost_ret (results_cell_row (P:=Tryz.prog) rfl _ _ (w.heap.size+1) 29 #[Y p,Y m,zL A' mod.length c'] (0,0) _ rfl n.out Tryz.underlying29 rfl fieldSize) rfl ?_;refine⟨⟨A',c',rfl,?_⟩,qaR i.out U0 _⟩;exact(v.out.of_blocks U2 fun k hk _=>setRow_other g (w.heap.size+1) k _ U0).lower (by have:=b.out.size;omega)
def OfPostA(w:World)(p m:Int)(mod:List Int)(cols:Int)(A:Option Addr)(n c:Nat)(e:Ending)(w':World):Prop:=
 (∃(A':Option Addr)(c':Nat),e=.returned (.tuple #[Ck p m A' mod.length c' cols A n c,Y 0])/\IntsUp w' w.heap.size A' mod)/\Below w.heap.size w w'
def NewPostA(w:World)(p m:Int)(mod:List Int)(cols:Int)(rows:List (List Nat))(e:Ending)(w':World):Prop:=
 (∃(A':Option Addr)(c':Nat)(R:Option Addr)(k:Nat),e=.returned (.tuple #[Ck p m A' mod.length c' cols R rows.length k,Y 0])/\IntsUp w' (w.heap.size+1+1+1) A' mod/\RowsUp w' (w.heap.size+1+1+1) R (nzs rows))/\Below w.heap.size w w'
theorem of_any(p m:Int)(mod:List Int)(C:Option Addr)(D:Nat)(B:Int)(A:Option Addr)(n c:Nat)(w:World)(E:IntsAt w w.heap.size C mod)(H:mod.length<=1000000):
 zC 157 #[Ch p m C mod.length D,Cy B A n c,Y 0] w (OfPostA w p m mod B A n c):=by
 have f:Hid (BoxC w (Ci p m C mod.length D) (De B A n c) (Cd) (((w.alloc (Ce p m C mod.length D)).alloc (Cp B A n c)).alloc (Cc))):=boxC w _ _ _;have u:=zH E;clear E;go_enter Tryz.func157,Tryz.ntmps157;go_upto_region 3 with fail;generalize ((w.alloc (Ce p m C mod.length D)).alloc (Cp B A n c)).alloc (Cc)=b at *;have j:Hid (∀W,LSt b W->W.rangeAt w.heap.size 0 (Ci p m C mod.length D)):=fun W i=>range_of_row (f.out.keep i).k0;have o:Hid (∀W,LSt b W->W.cell? (zA (w.heap.size+1) 0)=some (Y B)/\W.cell? (zA (w.heap.size+1) 1)=some (zL A n c)):=fun W i=>⟨cell_of_row _ _ 0 _ _ _ (f.out.keep i).k1,cell_of_row _ _ 1 _ _ _ (f.out.keep i).k1⟩;have g:Hid (LSt b b.drew):=(Below.refl _ _).drew
 have t:Hid (zC 201 #[Ch p m C mod.length D] b.drew fun e w'=>(∃(A':Option Addr)(c':Nat),e=.returned (Ch p m A' mod.length c')/\IntsUp w' b.heap.size A' mod)/\Below b.heap.size b w'):=
  (own_any p m mod C D b.drew (((u.out.keep f.out.below).keep (g.out.mono f.out.below.size)).more f.out.below.size) H).mono fun e w' ⟨h1,h2⟩=>⟨h1,g.out.trans h2⟩
 refine qbM 7 (LSt b) [(true,0),(true,2),(true,3),(true,4),(true,5),(false,1),(true,6)] default U1 U1 (fun _ _ d _ _ h=>by cases d<;>exact h) g.out ?_;simp only[List.map_cons,List.map_nil,List.getD_cons_zero,List.getD_cons_succ];refine qcS rfl 29 (.tmp 3) rfl w.heap.size 0 rfl (Ci p m C mod.length D) _ j.out Tryz.underlying29 rfl fieldSize ?_;go_simp
 iterate 4
  apply qcH rfl
  . intro W i
    obtain⟨y,z⟩:=o.out W i
    go_simp
    rfl
  go_simp
 apply qcE rfl
 . go_simp;exact⟨rfl,rfl⟩
 with_reducible refine t.out.mono ?_
 rintro e s ⟨⟨A',c',rfl,hu⟩,hb1⟩;refine⟨_,rfl,hb1,?_⟩;go_simp;apply qcH rfl
 . intro W i;go_simp;rfl
 go_simp;refine qeJ ?_;have l:=zH (f.out.keep hb1);have q:=zH l.out.k2;have r:=zH (l.out.set (Ca p m A' mod.length c' B A n c));have v:=zH hu;have x:=f.out.size;clear hu hb1;go_wp2_with (refine wpList_store_row rfl 32 (.tmp 6) (.tmp 18) rfl s (w.heap.size+1+1) 32 (Cb) (Cl p m A' mod.length c' B A n c) rfl rfl q.out codeSize rfl sc ?_);refine bodyPost_ret (results_row_one (P:=Tryz.prog) rfl _ _ (w.heap.size+1+1) 32 (Cl p m A' mod.length c' B A n c) (0,0) _ _ rfl rfl r.out.k2 Tryz.underlying32 rfl codeSize) rfl ?_;refine⟨⟨A',c',rfl,?_⟩,r.out.below⟩;exact(v.out.of_blocks U2 fun k hk _=>setRow_other s (w.heap.size+1+1) k _ U0).lower U0
theorem new_any(p m:Int)(mod:List Int)(W:Option Addr)(X:Nat)(V:Nat)(rows:List (List Nat))(A:Option Addr)(c:Nat)(w:World)(hM:IntsAt w w.heap.size W mod)(hl:mod.length<=1000000)(hA:RowsAt w w.heap.size A (nzs rows))(h1:1<=V)(Z:errC p m mod V (nzs rows)=0)(hN:lengthZ V=0):
 zC 113 #[Ch p m W mod.length X,Cy V A rows.length c] w (NewPostA w p m mod V (canonM (opsT p.toNat m.toNat (lOf p m mod)) rows V)):=by
 have i:Hid (BoxC w (Ci p m W mod.length X) (De V A rows.length c) (Cd) (((w.alloc (Ce p m W mod.length X)).alloc (Cp V A rows.length c)).alloc (Cc))):=boxC w _ _ _;have t:=zH hM;have E:=zH hA;have M:=zH hN;clear hM hA hN;go_enter Tryz.func113,Tryz.ntmps113;go_wp2_with fail;generalize ((w.alloc (Ce p m W mod.length X)).alloc (Cp V A rows.length c)).alloc (Cc)=J at *;have H:=zH (canonical2_c p m mod W X V rows A c J ((t.out.keep i.out.below).more i.out.below.size) U0 ((E.out.keep i.out.below).more i.out.below.size) h1 Z);(with_reducible refine H.out.mono ?_);rintro e d ⟨⟨R,VA,ck,rfl,hra,hpvx⟩,hb1⟩;clear hpvx;have C:=i.out.size;have f:=zH (i.out.keep hb1);have n:=zH ((t.out.keep f.out.below).more f.out.below.size);clear i t E H hb1;generalize canonM (opsT p.toNat m.toNat (lOf p m mod)) rows V=b at *;have o:=zH (hra.lower (lo':=w.heap.size+1+1+1) U0);have Q:w.heap.size<d.heap.size:=by have:=f.out.size;omega
 have S:w.heap.size+1<d.heap.size:=by have:=f.out.size;omega
 have g:Hid (Below d.heap.size d (d.alloc (Dg V R b.length b.length))):=(Below.refl _ _).alloc (Nat.le_refl _) _;have h:=zH (f.out.keep g.out);have u:=zH ((n.out.keep g.out).more g.out.size);have x:=zH (o.out.grow g.out);have r:Hid ((d.alloc (Dg V R b.length b.length)).heap[d.heap.size]?=some (.cells [Y (V:Int),zS R b.length b.length].toArray 54 (0,0))):=heap_alloc_new _ _;have L:Hid (d.heap.size<(d.alloc (Dg V R b.length b.length)).heap.size):=by show _ < _;simp
 clear hra o n C;clear J;go_upto_region 3 with(refine qaH rfl 54 (.tmp 6) (.tmp 13) rfl d _ (Dc V R b.length b.length) rfl rfl matSize rfl sc ?_);generalize d.alloc (Dg V R b.length b.length)=j at *;have O:j.cell? (zA (w.heap.size+1) 0)=some (Y (V:Int)):=cell_of_row _ _ 0 _ _ _ h.out.k1;have l:=zH (length_c V j);rw[M.out] at l;go_wp2_with fail;(with_reducible refine l.out.mono ?_);rintro e U ⟨rfl,rfl⟩;have z:Hid (j.rangeAt w.heap.size 0 (Ci p m W mod.length X)):=range_of_row h.out.k0;have B:Hid (j.rangeAt d.heap.size 0 [Y (V:Int),zS R b.length b.length]):=range_of_row r.out;have v:=zH (of_any p m mod W X V (zO R) b.length b.length j u.out hl);clear O;go_wp2_with (first|(refine wpList_load_mid rfl 29 (.tmp 2) rfl w.heap.size 0 rfl (Ci p m W mod.length X) _ z.out Tryz.underlying29 rfl fieldSize ?_)|(refine wpList_load_mid rfl 54 (.tmp 6) rfl d.heap.size 0 rfl [Y (V:Int),zS R b.length b.length] _ B.out Tryz.underlying54 rfl matSize ?_));(with_reducible refine v.out.mono ?_);rintro e D ⟨⟨A',c',rfl,hu⟩,hb4⟩;have q:=zH (h.out.keep hb4);have s:=zH q.out.k2;have I:=zH (q.out.set [Y p,Y m,zL A' mod.length c',Y (V:Int),zS R b.length b.length]);have N:=zH hu;have y:=zH (x.out.grow hb4);have T:=h.out.size;have K:=hb4.size;clear hu hb4;go_wp2_with (refine wpList_store_row rfl 32 (.tmp 4) (.tmp 25) rfl D (w.heap.size+1+1) 32 (Cb) #[Y p,Y m,zL A' mod.length c',Y (V:Int),zS R b.length b.length] rfl rfl s.out codeSize rfl sc ?_);refine bodyPost_ret (results_row_one (P:=Tryz.prog) rfl _ _ (w.heap.size+1+1) 32 #[Y p,Y m,zL A' mod.length c',Y (V:Int),zS R b.length b.length] (0,0) _ _ rfl rfl I.out.k2 Tryz.underlying32 rfl codeSize) rfl ?_;refine⟨⟨A',c',_,_,rfl,?_,?_⟩,I.out.below⟩
 . have h1:IntsUp (D.setRow (w.heap.size+1+1) #[Y p,Y m,zL A' mod.length c',Y (V:Int),zS R b.length b.length]) j.heap.size A' mod:=N.out.of_blocks U2 fun k hk _=>setRow_other D (w.heap.size+1+1) k _ U0;exact h1.lower U0
 . exact y.out.setRow (show w.heap.size+1+1<w.heap.size+1+1+1 by omega) _
end Go.Proofs.YtndipkplnkfoeaaGreat
