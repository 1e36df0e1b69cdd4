/- Parts of the proof. -/
import Derived.Test.YtndipkplnkfoeaaGreatR08
import Derived.Test.YtndipkplnkfoeaaGreatR12
import Derived.Test.YtndipkplnkfoeaaGreatR13
set_option maxRecDepth 100000
set_option maxHeartbeats 8000000
namespace Go.Proofs.YtndipkplnkfoeaaGreat
open Go.RowKit Pln
theorem eweight_c(v:List Nat)(A:Option Addr)(c:Nat)(w:World)(t:IntsAt w w.heap.size A (nz v))(u:v.length<=1000):
 zC 117 #[zL A v.length c] w fun e w'=>e=.returned (Y ((Dv.wt v:Nat):Int))/\w=w':=by
 have i:=zH t;clear t;go_enter Tryz.func117,Tryz.ntmps117;go_wp2_with fail;go_loopw [3,8] (fun v3 v8 wr=>RelWg v w v3 v8 wr) (fun _ v8 _=>v.length-(intOf v8).toNat);case atStart=>exact⟨0,U0,rfl,rfl,rfl⟩
 case round =>
  obtain⟨k,q,rfl,rfl,rfl⟩:=hrel;have m:Dv.wt (v.take k)<=1000:=Nat.le_trans (rwt_le _) (by rw[List.length_take];omega);by_cases f:k<v.length
  . obtain ⟨b,o,rfl,p,h⟩ := i.out.at_ (k := k) (by rw [qaA];exact f);rw [qaC] at h;have d:=zH (rwt_take f);have r:(0:Int)<=(k:Int):=U0;have s:(k:Int)<(v.length:Int):=U0;have j:IntKind.i64.wrap ((k:Int)+1)=(k:Int)+1:=IntWalk.i64_in _ U0;have l:IntKind.i64.wrap (((Dv.wt (v.take k):Nat):Int)+1)=((Dv.wt (v.take k):Nat):Int)+1:=IntWalk.i64_in _ U0;by_cases g:v.getD k 0=0
    . rw[if_pos g] at d;rw[g] at h;clear g;go_wp2_with fail;go_roundw;case rel=>exact⟨k+1,U0,gn,by rw[d.out];rfl,rfl⟩
      case measure=>exact mE
    . rw[if_neg g] at d;(have n:(((v.getD k 0:Nat):Int) != 0)=true:=by simpa using g);generalize v.getD k 0=x at *;go_wp2_with fail;go_roundw;case rel=>exact⟨k+1,U0,gn,by rw[d.out];go_num,rfl⟩
      case measure=>exact mE
  . (obtain rfl:k=v.length:=by omega);rw[List.take_length];go_wp2_with fail;go_ret;exact⟨rfl,rfl⟩
def RelE2(v1 v8:Value):Prop:=v1=Y 1/\v8=Y 1\/v1=Y 0/\v8=Y 2
theorem exp_2(w:World):zC 166 #[Y 2,Y 1,Y 65536] w fun e w'=>e=.returned (.tuple #[Y 2,Y 0])/\w=w':=by
 go_enter Tryz.func166,Tryz.ntmps166;go_wp2_with fail;go_loop [1,8] (fun v1 v8=>RelE2 v1 v8) (fun v1 _=>(intOf v1).toNat);case atStart=>exact .inl ⟨rfl,rfl⟩
 case round =>
  rcases hrel with⟨rfl,rfl⟩|⟨rfl,rfl⟩
  . go_wp2_with fail;go_round;case rel=>exact .inr ⟨rfl,rfl⟩
    case measure=>simp[intOf]
  . go_wp2_with fail;go_ret2;exact⟨rfl,rfl⟩
theorem esize_c(G:Nat)(w:World)(x:RowsAt w w.heap.size (zO G) [[1,1,1]]):
 zC 115 #[Da 2 1 3 G 1 1] w fun e w'=>e=.returned (.tuple #[Y 2,Y 0])/\Below w.heap.size w w':=by
 have o:=zH (bx_new w (Cr 2 1 3 G 1 1) 32);have s:=zH x;clear x;go_enter Tryz.func115,Tryz.ntmps115;go_upto_region 1 with fail;generalize w.alloc (Dn 2 1 3 G 1 1)=i at *;have b:=zH o.out.field;have q:Hid (zC 72 #[.agg #[Y 2,Y 1,zL none 0 0]] i fun e w'=>(∃gb,e=.returned (.tuple (Dm gb))/\GFUp w' i.heap.size gb 2 1 lT (logL lT (2^1)))/\Below i.heap.size i w'):=(fnew_up 2 1 [] none 0 i (fun h=>absurd h U2) U1);go_wp2_with (refine wpList_load_mid rfl 29 (.tmp 8) rfl w.heap.size 0 rfl (Dl 2 1) _ b.out Tryz.underlying29 rfl fieldSize ?_);(with_reducible refine q.out.mono ?_);rintro e m ⟨⟨gb,rfl,hg⟩,hb1⟩;have c:=zH (o.out.grow hb1);have k:=zH hg.at_;have p:=hg.2.1;clear hb1 hg q o b;clear i;have b:=zH c.out.range;have g:Hid (zC 27 #[Da 2 1 3 G 1 1] m fun e w'=>e=.returned (Y (codeZ 2 1 [] 3 [[1,1,1]]))/\Below m.heap.size m w'):=(codecheck_c 2 1 [] none 0 3 [[1,1,1]] (zO G) 1 m (fun h=>absurd h U2) U2 ((s.out.keep c.out.below).more c.out.below.size) U2);rw[codeZ_rep] at g;go_upto_region 2 with fail;go_wp2_with (refine wpList_load_mid rfl 32 (.tmp 1) rfl w.heap.size 0 rfl (Cr 2 1 3 G 1 1) _ b.out Tryz.underlying32 rfl codeSize ?_);(with_reducible refine g.out.mono ?_);rintro e n ⟨rfl,hb2⟩;have l:=zH (c.out.grow hb2);have j:=zH ((k.out.keep hb2).more hb2.size);clear hb2 g c k b;clear p;clear m;go_upto_region 7 with fail;have f:Hid (BX w (Cr 2 1 3 G 1 1) 32 n.drew):=l.out.grow (Below.refl _ _).drew;have r:=zH (gorder_e gb n.drew.heap.size 2 1 lT (logL lT (2^1)) n.drew (j.out.keep (Below.refl _ n).drew));refine qaS 8 8 (BX w (Cr 2 1 3 G 1 1) 32) [(1,0),(1,2),(0,3),(1,4),(2,1),(2,5),(1,6),(1,7)] default U1 U1 (fun _ _ d _ _ h=>by cases d<;>exact h) f.out ?_;clear l j;generalize n.drew=t at *;simp only[List.map_cons,List.map_nil,List.getD_cons_zero,List.getD_cons_succ]
 iterate 2
  apply qaM rfl
  . intro V
    go_simp
    rfl
  go_simp
 apply qbF rfl
 . intro V u;have y:V.cell? (zA w.heap.size 4)=some (zS G 1 1):=u.cell rfl;go_simp;rfl
 go_simp;apply qaM rfl
 . intro V;go_simp;rfl
 go_simp;apply qbE rfl
 . go_simp;exact⟨rfl,rfl⟩
 with_reducible refine r.out.mono ?_
 rintro e v ⟨rfl,rfl⟩;refine⟨_,rfl,f.out,?_⟩;go_simp;apply qbE rfl
 . go_simp;exact⟨rfl,rfl⟩
 with_reducible refine(exp_2 t).mono ?_
 rintro e v ⟨rfl,rfl⟩;refine⟨_,rfl,f.out,?_⟩;go_simp
 iterate 2
  apply qaM rfl
  . intro V
    go_simp
    rfl
  go_simp
 refine qbH ?_;show wpList _ _ _ _ _ _;clear r;go_wp2_with fail;go_ret2;exact⟨rfl,f.out.below⟩
theorem ewalk_c(cs:List Value)(w:World):
 zC 116 #[.agg cs.toArray] w fun e w'=>e=.returned (.func (.func 167) #[] #[zP w.heap.size])/\w'=w.alloc (.cells cs.toArray 32):=by go_enter Tryz.func116,Tryz.ntmps116;go_wp2_with fail;go_ret;exact⟨rfl,rfl⟩
structure BoxC (w:World) (f a r:List Value) (W:World):Prop where
 below:Below w.heap.size w W
 size:w.heap.size+2<W.heap.size
 k0:W.heap[w.heap.size]?=some (.cells f.toArray 29 (0,0))
 k1:W.heap[w.heap.size+1]?=some (.cells a.toArray 54 (0,0))
 k2:W.heap[w.heap.size+1+1]?=some (.cells r.toArray 32 (0,0))
section
variable {w:World} {f a r:List Value} {W W':World}
theorem BoxC.keep(h:BoxC w f a r W)(c:Below W.heap.size W W'):BoxC w f a r W':=by have b:=h.size;exact⟨h.below.trans (c.mono U0),Nat.lt_of_lt_of_le b c.size,(c.block _ U0).trans h.k0,(c.block _ U0).trans h.k1,(c.block _ U0).trans h.k2⟩
theorem BoxC.set(h:BoxC w f a r W)(b:List Value):BoxC w f a b (W.setRow (w.heap.size+1+1) b.toArray):=
 ⟨qaR h.below U0 _,by simpa using h.size,(setRow_other W _ _ _ U0).trans h.k0,(setRow_other W _ _ _ U0).trans h.k1,setRow_same W _ _ _ _ h.k2⟩
theorem boxC(w:World)(f a r:Array Value):BoxC w f.toList a.toList r.toList (((w.alloc (.cells f 29)).alloc (.cells a 54)).alloc (.cells r 32)):=by
 refine⟨(((Below.refl _ _).alloc (Nat.le_refl _) _).alloc U2 _).alloc so _,U2,?_,?_,?_⟩
 . exact(heap_alloc_old _ _ so).trans ((heap_alloc_old _ _ U2).trans (heap_alloc_new _ _))
 . exact(heap_alloc_old _ _ U2).trans (alloc_at U2 _)
 . exact alloc_at U2 _
end
theorem canonical2_c(p m:Int)(mod:List Int)(Am:Option Addr)(cm:Nat)(X:Nat)(rows:List (List Nat))(A:Option Addr)(c:Nat)(w:World)(hM:IntsAt w w.heap.size Am mod)(hl:mod.length<=9223372036854775807)(hA:RowsAt w w.heap.size A (nzs rows))(h1:1<=X)(Z:errC p m mod X (nzs rows)=0):
 zC 141 #[Ch p m Am mod.length cm,Cy X A rows.length c] w fun e w'=>(∃(R:Nat)(VA:Option Addr)(ck:Nat),e=.returned (.tuple #[.agg #[Y (X:Int),zS R (canonM (opsT p.toNat m.toNat (lOf p m mod)) rows X).length (canonM (opsT p.toNat m.toNat (lOf p m mod)) rows X).length],zL VA (canonM (opsT p.toNat m.toNat (lOf p m mod)) rows X).length ck,Y 0])/\RowsUp w' (w.heap.size+1+1+1) (zO R) (nzs (canonM (opsT p.toNat m.toNat (lOf p m mod)) rows X))/\IntsUp w' (w.heap.size+1+1+1) VA (nz (elGo (opsT p.toNat m.toNat (lOf p m mod)) rows X).piv))/\Below w.heap.size w w':=by
 obtain⟨j,O,v,_,T,U⟩:=errC_grid Z;rw[Int.toNat_natCast] at v;have n:=zH ((box3 w p m Am mod.length cm X A rows.length c 54 (Dk)).keep ((Below.refl _ _).alloc (Nat.le_refl _) (Cp X A rows.length c)));have s:Hid (((((w.alloc (Ce p m Am mod.length cm)).alloc (Cp X A rows.length c)).alloc (Dj)).alloc (Cp X A rows.length c)).heap[w.heap.size+1+1+1]?=some (Cp X A rows.length c)):=alloc_at U2 _;have J:=zH hM;have y:=zH hA;have z:=zH (field_ft j);have B:=zH v;clear hM hA Z;go_enter Tryz.func141,Tryz.ntmps141;go_wp2_with fail;generalize (((w.alloc (Ce p m Am mod.length cm)).alloc (Cp X A rows.length c)).alloc (Dj)).alloc (Cp X A rows.length c)=L at *;have I:=zH (open_c p m mod Am cm X (nzs rows) A c (w.heap.size+1+1+1) 1 L ((J.out.keep n.out.below).more n.out.below.size) hl ((y.out.keep n.out.below).more n.out.below.size) (by rw[nzs_len];omega) (by rw[nzs_len];exact s.out));(with_reducible refine I.out.mono ?_);rintro e l ⟨hb1,hcase⟩;have d:=zH (n.out.keep hb1);have o:=zH ((y.out.keep d.out.below).more d.out.below.size);clear n J y I s hb1;clear L;rcases hcase with⟨f,_⟩|⟨_,E,_⟩|⟨_,_,S,rfl,N⟩
 . rw[j] at f;cases f
 . exact absurd O E
 clear j O;have q:=zH (canon2_c S l.heap.size p.toNat m.toNat X (mdOf m mod) (lOf p m mod) rows A c l z.out N (Nat.le_refl _) o.out B.out h1 U0 U);have V:=d.out.size;have W:w.heap.size+1<l.heap.size:=U0;have M:l.cell? (zA (w.heap.size+1) 0)=some (Y (X:Int)):=cell_of_row _ _ 0 _ _ _ d.out.k1;have Q:l.cell? (zA (w.heap.size+1) 1)=some (zL A rows.length c):=cell_of_row _ _ 1 _ _ _ d.out.k1;clear N o;generalize h:(elGo (opsT p.toNat m.toNat (lOf p m mod)) rows X).piv=H at *;generalize g:canonM (opsT p.toNat m.toNat (lOf p m mod)) rows X=b at *;have u:=zH h;have t:=zH g;clear h g;go_wp2_with fail;(with_reducible refine q.out.mono ?_);rintro e x ⟨⟨R,VA,ck,rfl,hru,hpv⟩,hb2⟩;have i:=zH (d.out.keep hb2);have D:=zH hru;have C:=zH hpv;have r:=zH i.out.k2;clear hru hpv hb2 q d M Q;have M:x.cell? (zA (w.heap.size+1) 0)=some (Y (X:Int)):=cell_of_row _ _ 0 _ _ _ i.out.k1;have K:=zH (i.out.set (Dc X R b.length b.length));go_wp2_with (refine wpList_store_row rfl 54 (.tmp 4) (.tmp 34) rfl x (w.heap.size+1+1) 54 (Dk) (Dc X R b.length b.length) rfl rfl r.out matSize rfl sc ?_);refine bodyPost_ret (qbV (P:=Tryz.prog) rfl _ _ (w.heap.size+1+1) 54 (Dc X R b.length b.length) (0,0) _ _ _ rfl rfl rfl K.out.k2 Tryz.underlying54 rfl matSize) rfl ?_;rw[u.out,t.out];refine⟨⟨R,VA,ck,rfl,?_,?_⟩,K.out.below⟩
 . have h1:=D.out.setRow (show w.heap.size+1+1<l.heap.size by omega) (Dc X R b.length b.length);exact h1.lower U0
 . have h1:IntsUp (x.setRow (w.heap.size+1+1) (Dc X R b.length b.length)) l.heap.size VA (nz H):=C.out.of_blocks U2 fun k hk _=>setRow_other x (w.heap.size+1+1) k _ U0;exact h1.lower U0
end Go.Proofs.YtndipkplnkfoeaaGreat
