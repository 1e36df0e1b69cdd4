/- Parts of the proof. -/
import Derived.Test.YtflejelbdlelpaaGreatR30
import Derived.Test.YtflejelbdlelpaaGreatR28
set_option maxRecDepth 100000
set_option maxHeartbeats 8000000
namespace Go.Proofs.YtflejelbdlelpaaGreat
open Go.RowKit Pln
structure ExtOk (w':Wo) (p1 m1:Int) (mod1:LI) (p m:Int) (mod:LI) (n:Int) (gv:OA) (A:OA) (nA:Nat) (a:Int) (gb r:Nat):Prop where
 g:gv=some (zA gb 0)
 ok:fieldOK p m mod=true
 ok1:fieldOK p1 m1 mod1=true
 pp:p1=p
 len:nA=p1.toNat^m1.toNat
 gf:GFM w' w'.heap.size gb p.toNat m.toNat mod (lOf p m mod) (logL (lOf p m mod) (p.toNat^m.toNat))
 rq:r<p.toNat^m.toNat
 root:m1=1\/evN (opsT p.toNat m.toNat (lOf p m mod)) (mdOf m1 mod1++[1]) r=0
 im:zI w' A (nz ((List.range nA).map (imN (opsT p.toNat m.toNat (lOf p m mod)) p.toNat m1.toNat r)))
 ro:RootOk p m mod n a
 n1:1<=n
 n2:n<=64
structure ExtF (p1 m1:Int) (mod1:LI) (p m:Int) (mod:LI) (n:Nat) (a r:Nat):Prop where
 ok:fieldOK p m mod=true
 ok1:fieldOK p1 m1 mod1=true
 pp:p1=p
 rq:r<p.toNat^m.toNat
 root:m1=1\/evN (opsT p.toNat m.toNat (lOf p m mod)) (mdOf m1 mod1++[1]) r=0
 aq:a<p.toNat^m.toNat
 a0:a≠0
 ord:(n:Int)=((ordT (logL (lOf p m mod) (p.toNat^m.toNat)) (p.toNat^m.toNat) a:Nat):Int)
 n1:1<=n
 n2:n<=64
theorem dual_any(p m:Int)(mod:LI)(d:OA)(h n:Nat)(rows:LL)(A:OA)(c:Nat)(K:LL)(w:Wo)(k:zI w d mod)(l:mod.length<=1000000)(i:zR w A (nzs rows))(g:rows.length<=1000000)(o:codeZ p m mod (n:Int) (nzs rows)=0)(f:1<=n)(b:errC p m mod (n:Int) (nzs rows)=0)(j:kerM (opsT p.toNat m.toNat (lOf p m mod)) rows n=K):
 zC 93 #[C7 p m d mod.length h n A rows.length c] w (DuaPost p m mod n K w):=
 (dual_all p m mod d h n rows A c K w k l i g o f b j).mono fun _ _ ⟨⟨A2,c2,A',c',h1,h2,_⟩,hb⟩=>⟨⟨A2,c2,A',c',h1,h2⟩,hb⟩
end Go.Proofs.YtflejelbdlelpaaGreat
namespace Go.Proofs.YtflejelbdlelpaaGreat
open Go.RowKit Pln Go.Proofs.Tryz
open Al (fnz colOf normC ColsOk col_len col_lt fnz_lt)
theorem nzIx_fnz:∀ (l:LN)(k:Nat),(fnz l=0/\nzIx l k=-1)\/(∃ i,i<l.length/\nzIx l k=((k+i:Nat):Int)/\l.getD i 0=fnz l/\fnz l≠0)
 |[],_=>.inl ⟨rfl,rfl⟩
 | x :: r,k => by
   unfold nzIx fnz
   by_cases hx:x=0
   . rw[if_pos hx,if_pos hx]
     rcases nzIx_fnz r (k+1) with⟨h1,h2⟩|⟨i,h1,h2,h3,h4⟩
     . exact .inl ⟨h1,h2⟩
     . exact .inr ⟨i+1,so,by rw[h2];omega,by rw[<- h3];simp[List.getD],h4⟩
   . rw[if_neg hx,if_neg hx]
     exact .inr ⟨0,U2,U2,by simp[List.getD],hx⟩
theorem columns2_any(o c:LI)(f d:OA)(h cc g:Nat)(W:Wo)(j:zI W f o)(k:W.cell? (zA g 0)=some (zL d c.length cc))(i:zI W d c)(l:o.length<=1000):
 zC 98 #[zL f o.length h,zP g] W (Quiet (.bool (decide (o=c))) W):=by have b:=zH (sequal_c o c f d h cc W j i U0);clear j i;go_enter func98,ntmps98;go_wp2_with fail;refine b.o.mono ?_;rintro e w' ⟨rfl,n,rfl⟩;go_wp2;go_ret;exact⟨rfl,n,rfl⟩
end Go.Proofs.YtflejelbdlelpaaGreat
namespace Go.Proofs.YtflejelbdlelpaaGreat
open Go.RowKit Pln
structure GrsOk (p m:Int) (mod:LI) (K:Int) (ps qs:LI):Prop where
 ok:fieldOK p m mod=true
 n1:1<=ps.length
 n2:ps.length<=64
 len:qs.length=ps.length
 pq:∀z∈ps,0<=z/\z<((p.toNat^m.toNat:Nat):Int)
 qq:∀z∈qs,0<=z/\z<((p.toNat^m.toNat:Nat):Int)
 dis:∀i j,j<i->i<ps.length->ps.getD i 0≠ps.getD j 0
 q0:∀z∈qs,z≠0
 k0:0<=K
 k1:K<=(ps.length:Int)
structure GrsN (p m:Int) (mod:LI) (K:Nat) (L M:LN):Prop where
 ok:fieldOK p m mod=true
 n1:1<=L.length
 n2:L.length<=64
 len:M.length=L.length
 lq:∀x∈L,x<p.toNat^m.toNat
 mq:∀x∈M,x<p.toNat^m.toNat
 dis:∀i j,j<i->i<L.length->L.getD i 0≠L.getD j 0
 m0:∀x∈M,x≠0
 k1:K<=L.length
theorem checkZ_ok{q n cols:Nat}{rows:LL}(h:Grid q n cols rows)(i:cols<=256)(j:n<=256):checkZ q (cols:Int) (nzs rows)=0:=by
 unfold checkZ;rw[if_neg (by rw[nzs_len,h.1];omega),if_neg,if_neg]
 . rw[Bool.not_eq_false,List.all_eq_true];intro r c;obtain⟨d,b,rfl⟩:=List.mem_map.1 c;unfold elemsB;rw[List.all_eq_true];intro x f;obtain⟨y,g,rfl⟩:=List.mem_map.1 f;have:=(h.2 d b).2 y g;unfold inB;simp;omega
 . rw[Bool.not_eq_false,List.all_eq_true];intro r c;obtain⟨d,b,rfl⟩:=List.mem_map.1 c;rw[qaA,(h.2 d b).1];simp
structure BXS (w:Wo) (bs:List (List Value)) (W:Wo):Prop where
 box:∀i cs,bs[i]?=some cs->W.heap[w.heap.size+i]?=some (.cells cs.toArray 27 (0,0))
 below:zB w W
 size:w.heap.size+bs.length<=W.heap.size
theorem errC_of{p m:Int}{mod:LI}{N:Nat}{rows:LL}(b:fieldOK p m mod=true)(c:Grid (p.toNat^m.toNat) rows.length N rows)(d:N<=64)(f:rows.length<=256):errC p m mod N (nzs rows)=0:=by unfold errC;rw[if_pos b];exact checkZ_ok c U0 U0
end Go.Proofs.YtflejelbdlelpaaGreat
