/- Parts of the proof. -/
import Derived.Test.YtndipkplnkfoeaaGreatR20
import Derived.Test.YtndipkplnkfoeaaGreatR22
import Derived.Test.YtndipkplnkfoeaaGreatR19
set_option maxRecDepth 100000
set_option maxHeartbeats 8000000
namespace Go.Proofs.YtndipkplnkfoeaaGreat
open Go.RowKit Pln
def LSkA(a w:World):Prop:=Below a.heap.size a w
structure GrsOk (p m:Int) (mod:List Int) (K:Int) (ps qs:List Int):Prop where
 ok:fieldOK p m mod=true
 n1:1<=ps.length
 n2:ps.length<=64
 len:qs.length=ps.length
 pq:∀z∈ps,0<=z/\z<((p.toNat^m.toNat:Nat):Int)
 qq:∀z∈qs,0<=z/\z<((p.toNat^m.toNat:Nat):Int)
 dis:∀i j,j<i->i<ps.length->ps.getD i 0≠ps.getD j 0
 q0:∀z∈qs,z≠0
 k0:0<=K
 k1:K<=(ps.length:Int)
structure GrsN (p m:Int) (mod:List Int) (K:Nat) (L M:List Nat):Prop where
 ok:fieldOK p m mod=true
 n1:1<=L.length
 n2:L.length<=64
 len:M.length=L.length
 lq:∀x∈L,x<p.toNat^m.toNat
 mq:∀x∈M,x<p.toNat^m.toNat
 dis:∀i j,j<i->i<L.length->L.getD i 0≠L.getD j 0
 m0:∀x∈M,x≠0
 k1:K<=L.length
theorem checkZ_ok{q n h:Nat}{rows:List (List Nat)}(i:Grid q n h rows)(j:h<=256)(k:n<=256):checkZ q (h:Int) (nzs rows)=0:=by
 unfold checkZ;rw[if_neg (by rw[nzs_len,i.1];omega),if_neg,if_neg]
 . rw[Bool.not_eq_false,List.all_eq_true];intro r c;obtain⟨d,b,rfl⟩:=List.mem_map.1 c;unfold elemsB;rw[List.all_eq_true];intro x f;obtain⟨y,g,rfl⟩:=List.mem_map.1 f;have:=(i.2 d b).2 y g;unfold inB;simp;omega
 . rw[Bool.not_eq_false,List.all_eq_true];intro r c;obtain⟨d,b,rfl⟩:=List.mem_map.1 c;rw[qaA,(i.2 d b).1];simp
structure BXS (w:World) (bs:List (List Value)) (W:World):Prop where
 box:∀i cs,bs[i]?=some cs->W.heap[w.heap.size+i]?=some (.cells cs.toArray 32 (0,0))
 below:Below w.heap.size w W
 size:w.heap.size+bs.length<=W.heap.size
section
variable {w W W':World} {bs:List (List Value)}
theorem BXS.low(h:BXS w bs W){B:Nat}(b:Below B W W')(d:w.heap.size+bs.length<=B)(c:W.heap.size<=W'.heap.size):BXS w bs W':=
 ⟨fun i cs hi=>(b.block _ (by have:=(List.getElem?_eq_some_iff.1 hi).1;omega)).trans (h.box i cs hi),h.below.trans (b.mono U0),Nat.le_trans h.size c⟩
theorem BXS.grow(h:BXS w bs W)(b:Below W.heap.size W W'):BXS w bs W':=h.low b h.size b.size
theorem BXS.cell(h:BXS w bs W){i k:Nat}{cs:List Value}{v:Value}(b:bs[i]?=some cs)(c:cs[k]?=some v):W.cell? (zA (w.heap.size+i) k)=some v:=by rw[cell_of_row W _ k _ _ _ (h.box i cs b)];simpa using c
theorem BXS.range(h:BXS w bs W){i:Nat}{cs:List Value}(b:bs[i]?=some cs):W.rangeAt (w.heap.size+i) 0 cs:=range_of_row (h.box i cs b)
theorem BXS.field(h:BXS w bs W){i:Nat}{c v1 v2 f g:Value}(d:bs[i]?=some [c,v1,v2,f,g]):W.rangeAt (w.heap.size+i) 0 [c,v1,v2]:=fun j v hv=>by
 have b:=h.range d
 refine b j v ?_
 rcases j with _|_|_|j
 . exact hv
 . exact hv
 . exact hv
 . simp at hv
theorem BXS.set(h:BXS w bs W)(i:Nat)(f:i<bs.length)(d:List Value):BXS w (bs.set i d) (W.setRow (w.heap.size+i) d.toArray):=by
 obtain⟨c0,b⟩:∃c,bs[i]?=some c:=⟨_,List.getElem?_eq_getElem f⟩;refine⟨fun j cs hj=>?_,qaR h.below U0 _,by simpa using h.size⟩;by_cases e:j=i
 . subst e;rw[List.getElem?_set_self f] at hj;injection hj with hj;rw[<- hj];exact setRow_same _ _ _ _ _ (h.box j c0 b)
 . rw[List.getElem?_set_ne (fun e2=>e e2.symm)] at hj;rw[setRow_other _ _ _ _ U0];exact h.box j cs hj
end
theorem bxs3(w:World)(a b c:List Value):BXS w [a,b,c] (((w.alloc (.cells a.toArray 32)).alloc (.cells b.toArray 32)).alloc (.cells c.toArray 32)):=by
 refine⟨fun i cs hi=>?_,(((Below.refl _ _).alloc (Nat.le_refl _) _).alloc U2 _).alloc so _,U2⟩;rcases i with _|_|_|i
 . injection hi with hi;subst hi;exact(heap_alloc_old _ _ so).trans ((heap_alloc_old _ _ U2).trans (heap_alloc_new _ _))
 . injection hi with hi;subst hi;refine(heap_alloc_old _ _ U2).trans ?_;exact alloc_at U2 _
 . injection hi with hi;subst hi;exact alloc_at U2 _
 . simp at hi
def ConPost(w:World)(p m:Int)(mod:List Int)(N:Nat)(F:Prop)(Q:List Nat->Prop)(e:Ending)(w':World):Prop :=
 Below w.heap.size w w'/\((∃z:Int,z≠0/\e=.returned (.tuple #[.agg #[Y 0,Y 0,zL none 0 0,Y 0,zL none 0 0],Y z]))\/
  ∃(rows:List (List Nat))(A' R:Option Addr)(c' k:Nat),e=.returned (.tuple #[Ck p m A' mod.length c' N R (canonM (opsT p.toNat m.toNat (lOf p m mod)) rows N).length k,Y 0])/\
   IntsUp w' w.heap.size A' mod/\RowsUp w' w.heap.size R (nzs (canonM (opsT p.toNat m.toNat (lOf p m mod)) rows N))/\Grid (p.toNat^m.toNat) rows.length N rows/\N<=64/\F/\∀r∈rows,Q r)
theorem qcD{w:World}{g:Nat}{A:Option Addr}{zs:List Int}(h:IntsUp w g A zs):IntsAt w w.heap.size A zs:=fun hz=>by
 obtain⟨b,o,e,f,c,d⟩:=h hz
 exact⟨b,o,e,c,d⟩
theorem errC_of{p m:Int}{mod:List Int}{N:Nat}{rows:List (List Nat)}(b:fieldOK p m mod=true)(c:Grid (p.toNat^m.toNat) rows.length N rows)(d:N<=64)(f:rows.length<=256):errC p m mod N (nzs rows)=0:=by unfold errC;rw[if_pos b];exact checkZ_ok c U0 U0
def TwoB(w:World)(fs rs:List Value)(W:World):Prop:=W.heap[w.heap.size]?=some (.cells fs.toArray 29 (0,0))/\W.heap[w.heap.size+1]?=some (.cells rs.toArray 32 (0,0))/\Below w.heap.size w W/\w.heap.size+1<W.heap.size
theorem TwoB.grow{w:World}{i j:List Value}{W W':World}(h:TwoB w i j W)(g:Below W.heap.size W W'):TwoB w i j W':=by obtain⟨c,d,f,b⟩:=h;exact⟨(g.block _ U0).trans c,(g.block _ b).trans d,f.trans (g.mono U0),Nat.lt_of_lt_of_le b g.size⟩
theorem TwoB.set{w:World}{i j:List Value}{W:World}(h:TwoB w i j W)(g:List Value):TwoB w i g (W.setRow (w.heap.size+1) g.toArray):=by obtain⟨b,c,d,f⟩:=h;exact⟨(setRow_other _ _ _ _ U0).trans b,setRow_same _ _ _ _ _ c,qaR d U0 _,by simpa using f⟩
theorem twoB(w:World)(b c:List Value):TwoB w b c ((w.alloc (.cells b.toArray 29)).alloc (.cells c.toArray 32)):=
 ⟨(heap_alloc_old _ _ U2).trans (heap_alloc_new _ _),alloc_at U2 _,((Below.refl _ _).alloc (Nat.le_refl _) _).alloc U2 _,U2⟩
theorem qcM(p m:Int)(mod:List Int)(D:Option Addr)(E N:Nat)(rows:List (List Nat))(A:Option Addr)(c:Nat)(w:World)(L:IntsAt w w.heap.size D mod)(O:mod.length<=1000000)(K:RowsAt w w.heap.size A (nzs rows))(M:1<=N)(H:fieldOK p m mod=true)(I:Grid (p.toNat^m.toNat) rows.length N rows)(J:rows.length<=256):
 zC 80 #[Ch p m D mod.length E,Y (N:Int),zL A rows.length c] w (ConPost w p m mod N True (·∈rows)):=by
 have f:Hid (TwoB w (Ci p m D mod.length E) (Cd) ((w.alloc (Ce p m D mod.length E)).alloc (Cc))):=twoB w _ _
 have u:Hid (N<=64->∀W:World,Below w.heap.size w W->zC 113 #[Ch p m D mod.length E,Cy N A rows.length c] W (NewPostA W p m mod N (canonM (opsT p.toNat m.toNat (lOf p m mod)) rows N))):=fun q W hW=>
  new_any p m mod D E N rows A c W ((L.keep hW).more hW.size) O ((K.keep hW).more hW.size) M (errC_of H I q J) (by unfold lengthZ;rw[if_neg U0])
 have y:=zH I;clear L K I H;go_enter Tryz.func80,Tryz.ntmps80;go_upto_region 1 with fail;generalize (w.alloc (Ce p m D mod.length E)).alloc (Cc)=n at *;have x:=zH f.out.2.1;by_cases q:N<=64;rotate_left
 . (have B:(64:Int)<(N:Int):=by omega);have l:=zH (f.out.set (Cd));clear u;go_wp2_with (refine wpList_store_row rfl 32 (.tmp 6) (.tmp 10) rfl n (w.heap.size+1) 32 (Cb) (Cb) rfl rfl x.out codeSize rfl sc ?_);refine bodyPost_ret (results_row_one (P:=Tryz.prog) rfl _ _ (w.heap.size+1) 32 (Cb) (0,0) _ _ rfl rfl l.out.2.1 Tryz.underlying32 rfl codeSize) rfl ?_;exact⟨l.out.2.2.1,.inl ⟨4,dc,rfl⟩⟩
 . (have B:¬(64:Int)<(N:Int):=by omega);have g:=zH (u.out q n f.out.2.2.1);have h:Hid (n.rangeAt w.heap.size 0 (Ci p m D mod.length E)):=range_of_row f.out.1;clear u;go_wp2_with (refine wpList_load_mid rfl 29 (.tmp 3) rfl w.heap.size 0 rfl (Ci p m D mod.length E) _ h.out Tryz.underlying29 rfl fieldSize ?_);(with_reducible refine g.out.mono ?_);rintro e s ⟨⟨A',c',R,k,rfl,hu,hru⟩,hb1⟩;have i:=zH (f.out.grow hb1);have t:=zH i.out.2.1;have l:=zH (i.out.set (Ca p m A' mod.length c' N R (canonM (opsT p.toNat m.toNat (lOf p m mod)) rows N).length k));have C:=f.out.2.2.2;have z:Hid (IntsUp (s.setRow (w.heap.size+1) (Cl p m A' mod.length c' N R (canonM (opsT p.toNat m.toNat (lOf p m mod)) rows N).length k)) (n.heap.size+1+1+1) A' mod):=hu.of_blocks U2 fun j hj _=>setRow_other s (w.heap.size+1) j _ U0;have v:Hid (RowsUp (s.setRow (w.heap.size+1) (Cl p m A' mod.length c' N R (canonM (opsT p.toNat m.toNat (lOf p m mod)) rows N).length k)) (n.heap.size+1+1+1) R (nzs (canonM (opsT p.toNat m.toNat (lOf p m mod)) rows N))):=hru.setRow U0 _;clear hu hru hb1 f g h x;generalize d:canonM (opsT p.toNat m.toNat (lOf p m mod)) rows N=o at *;have b:=zH d;clear d;go_wp2_with (refine wpList_store_row rfl 32 (.tmp 6) (.tmp 16) rfl s (w.heap.size+1) 32 (Cb) (Cl p m A' mod.length c' N R o.length k) rfl rfl t.out codeSize rfl sc ?_);refine bodyPost_ret (results_row_one (P:=Tryz.prog) rfl _ _ (w.heap.size+1) 32 (Cl p m A' mod.length c' N R o.length k) (0,0) _ _ rfl rfl l.out.2.1 Tryz.underlying32 rfl codeSize) rfl ?_;exact⟨l.out.2.2.1,.inr ⟨rows,A',R,c',k,by rw[b.out];rfl,z.out.lower U0,by rw[b.out];exact v.out.lower U0,y.out,q,trivial,fun r J=>J⟩⟩
end Go.Proofs.YtndipkplnkfoeaaGreat
