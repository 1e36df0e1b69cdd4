/-
 grs.Code where nothing is wrong. grs.Code at any description. Printed by mkug.py. derive.itself at the rules 0 to 3. derive.itself at the rule of zeros. derive.itself at the rule of columns. derive.itself at the rule of Vandermonde matrices.
-/
import Derived.Test.YtlmglaonldlanaaGreatQ45
import Derived.Test.YtlmglaonldlanaaGreatQ18
namespace Go.Proofs.YtlmglaonldlanaaGreat
open Go.RowKit Pln
structure BoxG (w:World) (a r:List Value) (W:World):Prop where
 below:Below w.heap.size w W
 size:w.heap.size+1<W.heap.size
 k0:W.heap[w.heap.size]?=some (.cells a.toArray 87 (0,0))
 k1:W.heap[w.heap.size+1]?=some (.cells r.toArray 32 (0,0))
section
variable {w:World} {a r:List Value} {W W':World}
theorem BoxG.keep (h:BoxG w a r W) (hb:Below W.heap.size W W'):BoxG w a r W':=by
 have hs:=h.size
 exact ⟨h.below.trans (hb.mono (by omega)),Nat.lt_of_lt_of_le hs hb.size,(hb.block _ (by omega)).trans h.k0,(hb.block _ (by omega)).trans h.k1⟩
theorem BoxG.set (h:BoxG w a r W) (r':List Value):BoxG w a r' (W.setRow (w.heap.size+1) r'.toArray) :=
 ⟨qbD h.below (by omega) _,by simpa using h.size,(setRow_other W _ _ _ (by omega)).trans h.k0,qbI W _ _ _ _ h.k1⟩
theorem boxG (w:World) (a r:Array Value):BoxG w a.toList r.toList ((w.alloc (.cells a 87)).alloc (.cells r 32)) :=
 ⟨((Below.refl _ _).alloc (Nat.le_refl _) _).alloc (by simp) _,by simp,(heap_alloc_old _ _ (by simp)).trans (heap_alloc_new _ _),qbM (by simp) _⟩
end
end Go.Proofs.YtlmglaonldlanaaGreat
namespace Go.Proofs.YtlmglaonldlanaaGreat
open Go.RowKit Pln
theorem nz_of {zs:List Int} {q:Int} (h:∀ z∈zs,0<=z/\z<q):∃ L:List Nat,zs=nz L:=by
 refine ⟨zs.map Int.toNat,?_⟩
 unfold nz
 rw [List.map_map]
 conv=>lhs;rw [<- List.map_id zs]
 exact List.map_congr_left fun x hx=>by show x=((x.toNat:Nat):Int);have:=(h x hx).1;omega
theorem GrsOk.nat {p m:Int} {mod:List Int} {K:Int} {ps qs:List Int} (h:GrsOk p m mod K ps qs):∃ (L M:List Nat) (Kn:Nat),ps=nz L/\qs=nz M/\K=(Kn:Int):=by
 obtain ⟨L,hL⟩:=nz_of h.pq
 obtain ⟨M,hM⟩:=nz_of h.qq
 exact ⟨L,M,K.toNat,hL,hM,by have:=h.k0;omega⟩
structure GrsN (p m:Int) (mod:List Int) (K:Nat) (L M:List Nat):Prop where
 ok:fieldOK p m mod=true
 n1:1<=L.length
 n2:L.length<=64
 len:M.length=L.length
 lq:∀ x∈L,x<p.toNat ^ m.toNat
 mq:∀ x∈M,x<p.toNat ^ m.toNat
 dis:∀ i j,j<i->i<L.length->L.getD i 0≠L.getD j 0
 m0:∀ x∈M,x≠0
 k1:K<=L.length
theorem GrsOk.nats {p m:Int} {mod:List Int} {K:Nat} {L M:List Nat} (h:GrsOk p m mod (K:Int) (nz L) (nz M)):GrsN p m mod K L M:=by
 refine ⟨h.ok,by have:=h.n1;rwa [qaB] at this,by have:=h.n2;rwa [qaB] at this,by have:=h.len;rwa [qaB,qaB] at this,fun x hx=>?_,fun x hx=>?_,fun i j h1 h2=>?_,fun x hx=>?_,by have:=h.k1;rw [qaB] at this;omega⟩
 . have := (h.pq (x : Int) (mem_nz.2 hx)).2
   omega
 . have := (h.qq (x : Int) (mem_nz.2 hx)).2
   omega
 . have := h.dis i j h1 (by rw [qaB];exact h2)
   rw [qaF,qaF] at this
   omega
 . have := h.q0 (x : Int) (mem_nz.2 hx)
   omega
def finG (p m:Int) (mod:List Int) (L M:List Nat) (K:Nat):List (List Nat):=canonM (opsT p.toNat m.toNat (lOf p m mod)) (genG (opsT p.toNat m.toNat (lOf p m mod)) M L K) L.length
theorem checkZ_ok {q n cols:Nat} {rows:List (List Nat)} (hg:Grid q n cols rows) (h1:cols<=256) (h2:n<=256):checkZ q (cols:Int) (nzs rows)=0:=by
 unfold checkZ
 rw [if_neg (by rw [qbC,hg.1];omega),if_neg,if_neg]
 . rw [Bool.not_eq_false,List.all_eq_true]
   intro r hr
   obtain ⟨r',hr',rfl⟩:=List.mem_map.1 hr
   unfold elemsB
   rw [List.all_eq_true]
   intro x hx
   obtain ⟨y,hy,rfl⟩:=List.mem_map.1 hx
   have:=(hg.2 r' hr').2 y hy
   unfold inB
   simp
   omega
 . rw [Bool.not_eq_false,List.all_eq_true]
   intro r hr
   obtain ⟨r',hr',rfl⟩:=List.mem_map.1 hr
   rw [qaB,(hg.2 r' hr').1]
   simp
theorem genG_grid {q K:Nat} {O:Ops} (hm:∀ x y,x<q->y<q->O.mul x y<q) {M L:List Nat} (hM:∀ x∈M,x<q) (hL:∀ x∈L,x<q) (hn:M.length=L.length):Grid q K L.length (genG O M L K):=by
 refine ⟨genG_len _ _ _ _,fun r hr=>?_⟩
 obtain ⟨k,hk,rfl⟩:=List.mem_map.1 hr
 clear hr hk
 induction k with
 | zero=>exact ⟨hn,hM⟩
 | succ k ih =>
   obtain ⟨h1,h2⟩:=ih
   show (List.zipWith O.mul (rowG O M L k) L).length=_/\_
   refine ⟨by simp [h1],fun x hx=>?_⟩
   have hx':x∈List.zipWith O.mul (rowG O M L k) L:=hx
   clear hx
   obtain ⟨i,hi,rfl⟩:=List.mem_iff_getElem.1 hx'
   rw [List.getElem_zipWith]
   simp at hi
   exact hm _ _ (h2 _ (List.getElem_mem _)) (hL _ (List.getElem_mem _))
def GcPost (w:World) (p m:Int) (mod:List Int) (K:Int) (ps qs:List Int) (e:Ending) (w':World):Prop :=
 (∃ (A' R:Option Addr) (n' c' rl k:Nat) (p' m' n z:Int),e=.returned (.tuple #[.agg #[.int .i64 p',.int .i64 m',.slice A' n' c',.int .i64 n,.slice R rl k],.int .i64 z])/\(z=0->∃ (L M:List Nat) (Kn:Nat),ps=nz L/\qs=nz M/\K=(Kn:Int)/\GrsOk p m mod K ps qs/\p'=p/\m'=m/\n'=mod.length/\n=(L.length:Int)/\rl=(finG p m mod L M Kn).length/\IntsAt w' w'.heap.size A' mod/\RowsAt w' w'.heap.size R (nzs (finG p m mod L M Kn))))/\Below w.heap.size w w'
set_option maxHeartbeats 4000000 in
set_option maxRecDepth 100000 in
theorem gcode_any (p m:Int) (mod:List Int) (Am:Option Addr) (cm:Nat) (K:Int) (ps:List Int) (Ap:Option Addr) (cp:Nat) (qs:List Int) (Aq:Option Addr) (cq:Nat) (w:World) (hM:IntsAt w w.heap.size Am mod) (hml:mod.length<=1000000)
 (hL:IntsAt w w.heap.size Ap ps) (hQ:IntsAt w w.heap.size Aq qs) (hcp:ps.length<=cp) (hlp:ps.length<=9223372036854775807) :
 Calls Tryz.prog 53 #[.agg #[.int .i64 p,.int .i64 m,.slice Am mod.length cm,.int .i64 K,.slice Ap ps.length cp,.slice Aq qs.length cq]] w (GcPost w p m mod K ps qs):=by
 have HX:Hid (BoxG w [.int .i64 p,.int .i64 m,.slice Am mod.length cm,.int .i64 K,.slice Ap ps.length cp,.slice Aq qs.length cq] [.int .i64 0,.int .i64 0,.slice none 0 0,.int .i64 0,.slice none 0 0] ((w.alloc (.cells #[.int .i64 p,.int .i64 m,.slice Am mod.length cm,.int .i64 K,.slice Ap ps.length cp,.slice Aq qs.length cq] 87)).alloc (.cells #[.int .i64 0,.int .i64 0,.slice none 0 0,.int .i64 0,.slice none 0 0] 32))):=boxG w _ _
 have HOPEN:Hid (∀ W,Below w.heap.size w W->Calls Tryz.prog 112 #[.agg #[.int .i64 p,.int .i64 m,.slice Am mod.length cm,.int .i64 K,.slice Ap ps.length cp,.slice Aq qs.length cq]] W (GopPost W p m mod K ps qs)):=fun W hW =>
  gopen_any p m mod Am cm K ps Ap cp qs Aq cq W ((hM.keep hW).more hW.size) (by omega) ((hL.keep hW).more hW.size) ((hQ.keep hW).more hW.size) hcp hlp
 have HGEN:Hid (∀ (L M:List Nat) (Kn:Nat),ps=nz L->qs=nz M->K=(Kn:Int)->GrsOk p m mod K ps qs->∀ W gb Bg,Below w.heap.size w W->GFAt W Bg gb p.toNat m.toNat (lOf p m mod) (logL (lOf p m mod) (p.toNat ^ m.toNat))->Bg<=W.heap.size->Calls Tryz.prog 114 #[.pointer (some ⟨gb,0,none⟩),.agg #[.int .i64 p,.int .i64 m,.slice Am mod.length cm,.int .i64 K,.slice Ap L.length cp,.slice Aq M.length cq]] W fun e w'=>(∃ A' c',e=.returned (.agg #[.int .i64 (L.length:Int),.slice A' Kn c'])/\RowsUp w' W.heap.size A' (nzs (genG (opsT p.toNat m.toNat (lOf p m mod)) M L Kn)))/\Below W.heap.size W w'):=fun L M Kn e1 e2 e3 ho W gb Bg hW hg hBg=>by
  subst e1 e2 e3
  have hN:=ho.nats
  have h:=ggen_c gb Bg p.toNat m.toNat (mdOf m mod) (lOf p m mod) p m Am mod.length cm Kn L Ap cp M Aq cq W (qaW hN.ok) hg hBg ((hL.keep hW).more hW.size) ((hQ.keep hW).more hW.size) hN.len hN.n1 hN.n2 hN.lq hN.mq (by have:=hN.k1;have:=hN.n2;omega)
  rw [<- hN.len] at h
  rw [hN.len] at h ⊢
  exact h
 have HNEW:Hid (∀ (L M:List Nat) (Kn:Nat),ps=nz L->qs=nz M->K=(Kn:Int)->GrsOk p m mod K ps qs->∀ W A1 c1,Below w.heap.size w W->RowsAt W W.heap.size A1 (nzs (genG (opsT p.toNat m.toNat (lOf p m mod)) M L Kn))->Calls Tryz.prog 113 #[.agg #[.int .i64 p,.int .i64 m,.slice Am mod.length cm],.agg #[.int .i64 (L.length:Int),.slice A1 Kn c1]] W (NewPostA W p m mod L.length (finG p m mod L M Kn))):=fun L M Kn e1 e2 e3 ho W A1 c1 hW hr=>by
  subst e1 e2 e3
  have hN:=ho.nats
  have hE:=hN.n2
  have hK1:=hN.k1
  have e0:errC p m mod L.length (nzs (genG (opsT p.toNat m.toNat (lOf p m mod)) M L Kn))=0:=by
   unfold errC
   rw [if_pos hN.ok]
   exact checkZ_ok (genG_grid (fun x y hx hy=>qcZ (qaW hN.ok) hx hy) hN.mq hN.lq hN.len) (by omega) (by omega)
  have:=new_any p m mod Am cm L.length _ A1 c1 W ((hM.keep hW).more hW.size) hml hr hN.n1 e0 (by unfold lengthZ;rw [if_neg (by have:=hN.n1;omega)])
  rw [genG_len] at this
  exact this
 clear hM hL hQ
 go_enter Tryz.func53,Tryz.ntmps53
 go_upto_region 1 with fail
 generalize (w.alloc (.cells #[.int .i64 p,.int .i64 m,.slice Am mod.length cm,.int .i64 K,.slice Ap ps.length cp,.slice Aq qs.length cq] 87)).alloc (.cells #[.int .i64 0,.int .i64 0,.slice none 0 0,.int .i64 0,.slice none 0 0] 32)=W0 at *
 have HRG0:Hid (W0.rangeAt w.heap.size 0 [.int .i64 p,.int .i64 m,.slice Am mod.length cm,.int .i64 K,.slice Ap ps.length cp,.slice Aq qs.length cq]):=qaC HX.out.k0
 go_wp2_with (refine wpList_load_mid rfl 87 (.tmp 1) rfl w.heap.size 0 rfl [.int .i64 p,.int .i64 m,.slice Am mod.length cm,.int .i64 K,.slice Ap ps.length cp,.slice Aq qs.length cq] _ HRG0.out Tryz.underlying87 rfl grsSize ?_)
 (with_reducible refine (HOPEN.out W0 HX.out.below).mono ?_)
 rintro e w1 ⟨⟨go,z,rfl,hz⟩,hb1⟩
 have HX1:=Lib.hid (HX.out.keep hb1)
 have HZZ:=Lib.hid hz
 clear hb1 HX HRG0 HOPEN hz
 clear W0
 by_cases hz0:z=0
 rotate_left
 . have hzb : (z != 0) = true := bne_iff_ne.2 hz0
   have HZ0:=Lib.hid hz0
   have HK1:=Lib.hid HX1.out.k1
   have HY:=Lib.hid (HX1.out.set [.int .i64 0,.int .i64 0,.slice none 0 0,.int .i64 0,.slice none 0 0])
   clear hz0 HZZ HGEN HNEW
   go_wp2_with (refine qaE rfl 32 (.tmp 2) (.tmp 13) rfl w1 (w.heap.size+1) 32 #[.int .i64 0,.int .i64 0,.slice none 0 0,.int .i64 0,.slice none 0 0] #[.int .i64 0,.int .i64 0,.slice none 0 0,.int .i64 0,.slice none 0 0] rfl rfl HK1.out codeSize rfl (by simp [Value.oneCell']) ?_)
   refine bodyPost_ret (qaP (P:=Tryz.prog) rfl _ _ (w.heap.size+1) 32 #[.int .i64 0,.int .i64 0,.slice none 0 0,.int .i64 0,.slice none 0 0] (0,0) _ _ rfl rfl HY.out.k1 Tryz.underlying32 rfl codeSize) rfl ?_
   exact ⟨⟨none,none,0,0,0,0,0,0,0,z,rfl,fun h=>absurd h HZ0.out⟩,HY.out.below⟩
 obtain ⟨gb,hgo,hg,hok⟩:=HZZ.out hz0
 subst hz0
 subst hgo
 have HG:=Lib.hid hg
 have HOK:=Lib.hid hok
 obtain ⟨L,M,Kn,rfl,rfl,rfl⟩:=hok.nat
 rw [qaB] at hlp
 have HGO:=Lib.hid (HOK.out.nats)
 clear hg HZZ hok
 have HGENN:=Lib.hid (HGEN.out L M Kn rfl rfl rfl HOK.out)
 have HNEWN:=Lib.hid (HNEW.out L M Kn rfl rfl rfl HOK.out)
 clear HGEN HNEW
 have HFIN:Hid (∀ (A' R:Option Addr) (c' k:Nat) (W:World),IntsAt W W.heap.size A' mod->RowsAt W W.heap.size R (nzs (finG p m mod L M Kn))->Below w.heap.size w W->GcPost w p m mod (Kn:Int) (nz L) (nz M) (.returned (.tuple #[.agg #[.int .i64 p,.int .i64 m,.slice A' mod.length c',.int .i64 (L.length:Int),.slice R (finG p m mod L M Kn).length k],.int .i64 0])) W):=fun A' R c' k W h1 h2 h3 =>
  ⟨⟨A',R,mod.length,c',(finG p m mod L M Kn).length,k,p,m,(L.length:Int),0,rfl,fun _=>⟨L,M,Kn,rfl,rfl,rfl,HOK.out,rfl,rfl,rfl,rfl,rfl,h1,h2⟩⟩,h3⟩
 generalize finG p m mod L M Kn=fin at *
 simp only [qaB] at *
 go_upto_region 4 with fail
 have HRC:Hid (∀ W,LSt w1 W->W.rangeAt w.heap.size 0 [.int .i64 p,.int .i64 m,.slice Am mod.length cm,.int .i64 (Kn:Int),.slice Ap L.length cp,.slice Aq M.length cq]):=fun W hW=>qaC (HX1.out.keep hW).k0
 have HRF:Hid (∀ W,LSt w1 W->W.rangeAt w.heap.size 0 [.int .i64 p,.int .i64 m,.slice Am mod.length cm]):=fun W hW j v hv=>HRC.out W hW j v (by
  match j,hv with
  | 0,hv=>exact hv
  | 1,hv=>exact hv
  | 2,hv=>exact hv
  | j+3,hv=>simp at hv)
 have HS0:Hid (LSt w1 w1.drew):=(Below.refl _ _).drew
 have HWB:Hid (∀ W,LSt w1 W->Below w.heap.size w W):=fun W hW=>HX1.out.below.trans (Below.mono hW HX1.out.below.size)
 refine qaX 9 8 (LSt w1) [(0,0),(0,1),(0,2),(0,3),(2,4),(2,5),(0,6),(1,7),(3,8)] default (by kernel_rfl) (by kernel_rfl) (fun _ _ d _ _ h=>by cases d <;> exact h) HS0.out ?_
 simp only [List.map_cons,List.map_nil,List.getD_cons_zero,List.getD_cons_succ]
 apply qaZ rfl
 . intro W hW
   go_simp
   rfl
 go_simp
 refine qbV rfl 29 (.tmp 15) rfl w.heap.size 0 rfl [.int .i64 p,.int .i64 m,.slice Am mod.length cm] _ HRF.out Tryz.underlying29 rfl fieldSize ?_
 go_simp
 apply qaZ rfl
 . intro W hW
   go_simp
   rfl
 go_simp
 refine qbV rfl 87 (.tmp 1) rfl w.heap.size 0 rfl [.int .i64 p,.int .i64 m,.slice Am mod.length cm,.int .i64 (Kn:Int),.slice Ap L.length cp,.slice Aq M.length cq] _ HRC.out Tryz.underlying87 rfl grsSize ?_
 go_simp
 apply qcF rfl
 . go_simp
   exact ⟨rfl,rfl⟩
 with_reducible refine (HGENN.out _ gb w1.heap.size (HWB.out _ HS0.out) (HG.out.keep (Below.refl _ _).drew) (Nat.le_refl _)).mono ?_
 rintro e w2 ⟨⟨A1,c1,rfl,hr2⟩,hb2⟩
 have HB2:Hid (LSt w1 w2):=HS0.out.trans hb2
 refine ⟨_,rfl,HB2.out,?_⟩
 go_simp
 apply qcF rfl
 . go_simp
   exact ⟨rfl,rfl⟩
 with_reducible refine (HNEWN.out w2 A1 c1 (HWB.out _ HB2.out) hr2.rowsAt).mono ?_
 rintro e w3 ⟨⟨A',c',R,k,rfl,hu3,hr3⟩,hb3⟩
 have HB3:Hid (LSt w1 w3):=Below.trans HB2.out (hb3.mono (Below.size HB2.out))
 refine ⟨_,rfl,HB3.out,?_⟩
 go_simp
 apply qaZ rfl
 . intro W hW
   go_simp
   rfl
 go_simp
 apply qaR rfl
 . intro W
   go_simp
   rfl
 go_simp
 have HX3:=Lib.hid (HX1.out.keep HB3.out)
 have HK3:=Lib.hid HX3.out.k1
 have HY:=Lib.hid (HX3.out.set [.int .i64 p,.int .i64 m,.slice A' mod.length c',.int .i64 (L.length:Int),.slice R fin.length k])
 have HU3:=Lib.hid hu3
 have HR3:=Lib.hid hr3
 have hs1:=HX1.out.size
 have hs2:w1.heap.size<=w2.heap.size:=Below.size HB2.out
 clear hr2 hb2 hu3 hr3 hb3
 refine qcU rfl 32 (.tmp 2) (.tmp 21) rfl (w.heap.size+1) 32 #[.int .i64 0,.int .i64 0,.slice none 0 0,.int .i64 0,.slice none 0 0] #[.int .i64 p,.int .i64 m,.slice A' mod.length c',.int .i64 (L.length:Int),.slice R fin.length k] rfl rfl HK3.out codeSize rfl (by simp [Value.oneCell']) ?_
 go_simp
 refine qbZ ?_
 go_wp2_with fail
 refine bodyPost_ret (qaP (P:=Tryz.prog) rfl _ _ (w.heap.size+1) 32 #[.int .i64 p,.int .i64 m,.slice A' mod.length c',.int .i64 (L.length:Int),.slice R fin.length k] (0,0) _ _ rfl rfl HY.out.k1 Tryz.underlying32 rfl codeSize) rfl ?_
 refine HFIN.out A' R c' k _ ?_ ?_ HY.out.below
 . exact (HU3.out.of_blocks (by simp) fun k hk _=>setRow_other w3 (w.heap.size+1) k _ (by omega)).ints
 . exact (HR3.out.setRow (show w.heap.size+1<w2.heap.size+1+1+1 by omega) _).rowsAt
end Go.Proofs.YtlmglaonldlanaaGreat
namespace Go.Proofs.YtlmglaonldlanaaGreat
open Go.RowKit Pln
open Al (ColsOk)
def StE (w:World) (B:Nat) (_d:StD) (bl pl ml:List Int) (cs:List Value):Prop :=
 ∃ (Ab Ap Aq:Option Addr) (cb cp cq:Nat),cs[11]?=some (.slice Ab bl.length cb)/\cs[17]?=some (.slice Ap pl.length cp)/\cs[18]?=some (.slice Aq ml.length cq)/\bl.length<=maxLen/\pl.length<=maxLen/\pl.length<=cp/\IntsAt w B Ab bl/\IntsAt w B Ap pl/\IntsAt w B Aq ml
theorem StE.keep {w w':World} {B:Nat} {d:StD} {bl pl ml:List Int} {cs:List Value} (h:StE w B d bl pl ml cs) (hb:Below B w w'):StE w' B d bl pl ml cs:=by
 obtain ⟨Ab,Ap,Aq,cb,cp,cq,h1,h2,h3,h4,h5,h6,h7,h8,h9⟩:=h
 exact ⟨Ab,Ap,Aq,cb,cp,cq,h1,h2,h3,h4,h5,h6,h7.keep hb,h8.keep hb,h9.keep hb⟩
theorem StE.more {w:World} {B B':Nat} {d:StD} {bl pl ml:List Int} {cs:List Value} (h:StE w B d bl pl ml cs) (hB:B<=B'):StE w B' d bl pl ml cs:=by
 obtain ⟨Ab,Ap,Aq,cb,cp,cq,h1,h2,h3,h4,h5,h6,h7,h8,h9⟩:=h
 exact ⟨Ab,Ap,Aq,cb,cp,cq,h1,h2,h3,h4,h5,h6,h7.more hB,h8.more hB,h9.more hB⟩
theorem runSize:(Tryz.prog.info? 34).map (·.size)=some 5:=by kernel_rfl
def opsS (d:StD):Ops:=opsT d.p.toNat d.m.toNat (lOf d.p d.m d.mod)
def Leaf0 (s:StD):Prop:=s.low=1\/s.gen=[]
def Leaf1 (s:StD):Prop:=s.low=1\/s.low<=3/\ColsOk (opsS s) (kerM (opsS s) (natR s.gen) s.n.toNat) s.n.toNat (decide (s.low=3))
def Leaf2 (s:StD) (bl:List Int):Prop:=∃ (zs:List Nat) (a r:Nat) (bound:Int),ExtF s.p s.m s.mod s.bp s.bm bl s.n.toNat a r/\(∀ z∈zs,z<s.n.toNat/\ZeroN s.p s.m s.bp s.bm bl (natR s.gen) a r z)/\ChkOk s.n.toNat zs s.r0 s.r1 s.r2 s.r3 s.r4 bound/\s.low<=bound
def Leaf3 (s:StD):Prop:=∃ (L M:List Nat) (K:Nat),GrsN s.p s.m s.mod K L M/\s.n=(L.length:Int)/\s.gen=nzs (finG s.p s.m s.mod L M K)/\K=s.gen.length/\s.low<=s.n-(K:Int)+1
def ItPost (w:World) (P:Prop) (e:Ending) (w':World):Prop:=(∃ b:Bool,e=.returned (.bool b)/\(b=true->P))/\Below w.heap.size w w'
set_option maxHeartbeats 2000000 in
set_option maxRecDepth 100000 in
theorem itselfL_0 (s:StD) (cs:List Value) (w:World) (hs:StC w w.heap.size s cs) (hr:s.rule=0) :
 Calls Tryz.prog 28 #[.agg cs.toArray] w (ItPost w (Leaf0 s)):=by
 obtain ⟨Am,Ag,Af,Aa,Ab,Ap,Aq,Ar,As,At,cm,cg,cf,ca,cb,cp,cq,cr,cs',ct,rfl,_,h1,h2,h3,h4,h5⟩:=hs
 have HX:=Lib.hid (qdZ w (stCells s Am Ag Af Aa Ab Ap Aq Ar As At cm cg cf ca cb cp cq cr cs' ct))
 clear h1 h2 h3 h4 h5
 have HR:=Lib.hid hr
 clear hr
 go_enter Tryz.func28,Tryz.ntmps28
 go_upto_region 1 with fail
 generalize w.alloc (.cells (stCells s Am Ag Af Aa Ab Ap Aq Ar As At cm cg cf ca cb cp cq cr cs' ct).toArray 40)=W0 at *
 have y0:W0.cell? ⟨w.heap.size,0,none⟩=some (.int .i64 0):=by rw [<- HR.out];exact HX.out.cell rfl
 have y6:W0.cell? ⟨w.heap.size,6,none⟩=some (.int .i64 s.low):=HX.out.cell rfl
 have y5:W0.cell? ⟨w.heap.size,5,none⟩=some (.slice Ag s.gen.length cg):=HX.out.cell rfl
 by_cases hl:s.low=1
 . have e1 : (s.low == 1) = true := beq_iff_eq.2 hl
   have HP:Hid (Leaf0 s):=.inl hl
   clear hl
   generalize s.low=low at *
   go_wp2_with fail
   go_ret
   exact ⟨⟨_,rfl,fun _=>HP.out⟩,HX.out.2.1⟩
 . have e1 : (s.low == 1) = false := beq_false_of_ne hl
   by_cases hg:s.gen.length=0
   . have HP : Hid (Leaf0 s) := .inr (List.length_eq_zero_iff.1 hg)
     rw [hg] at y5
     clear hl hg
     generalize s.low=low at *
     go_wp2_with fail
     go_ret
     exact ⟨⟨_,rfl,fun _=>HP.out⟩,HX.out.2.1⟩
   . have e2 : ((s.gen.length : Int) == 0) = false := beq_false_of_ne (by omega)
     clear hl hg
     generalize s.low=low at *
     go_wp2_with fail
     go_ret
     exact ⟨⟨false,by first | rfl | simp_all,fun h=>by cases h⟩,HX.out.2.1⟩
end Go.Proofs.YtlmglaonldlanaaGreat
namespace Go.Proofs.YtlmglaonldlanaaGreat
open Go.RowKit Pln
set_option maxHeartbeats 4000000 in
set_option maxRecDepth 100000 in
theorem itselfL_2 (s:StD) (bl pl ml:List Int) (cs:List Value) (w:World) (hs:StC w w.heap.size s cs) (he:StE w w.heap.size s bl pl ml cs) (ks:s.ok) (hf:formZ s=0) (hr:s.rule=2) :
 Calls Tryz.prog 28 #[.agg cs.toArray] w (ItPost w (Leaf2 s bl)):=by
 obtain ⟨Am,Ag,Af,Aa,Ab,Ap,Aq,Ar,As,At,cm,cg,cf,ca,cb,cp,cq,cr,cs',ct,rfl,_,h1,h2,h3,h4,h5⟩:=hs
 obtain ⟨Ab',Ap',Aq',cb2,cp2,cq2,g1,_,_,g4,_,_,g7,_,_⟩:=he
 have hF:=qfO hf
 have hcz:codeZ s.p s.m s.mod s.n s.gen=0:=by
  unfold formZ at hf
  split at hf
  . rename_i hz
    exact absurd hf hz
  . rename_i hz
    exact Classical.byContradiction hz
 have hab:Value.slice Ab s.bmod cb=.slice Ab' bl.length cb2:=by
  have:some (Value.slice Ab s.bmod cb)=some (.slice Ab' bl.length cb2):=g1
  injection this
 have hnn:((s.n.toNat:Nat):Int)=s.n:=by have:=hF.n1;omega
 have eml:maxLen=9223372036854775807:=rfl
 obtain ⟨k1,k2,_⟩:=ks
 rw [eml] at k1 k2 g4
 have HX:=Lib.hid (qdZ w (stCells s Am Ag Af Aa Ab Ap Aq Ar As At cm cg cf ca cb cp cq cr cs' ct))
 have hrl:(natR s.gen).length=s.gen.length:=by unfold natR;rw [List.length_map]
 have HZ:Hid (∀ W,Below w.heap.size w W->Calls Tryz.prog 51 #[.agg #[.int .i64 s.p,.int .i64 s.m,.slice Am s.mod.length cm,.int .i64 s.n,.slice Ag s.gen.length cg],.agg #[.int .i64 s.bp,.int .i64 s.bm,.slice Ab s.bmod cb]] W (ZrPost W s.p s.m s.mod s.bp s.bm bl s.n.toNat (natR s.gen))):=fun W hW=>by
  have h:=zeros_c s.p s.m s.mod Am cm s.n.toNat (natR s.gen) Ag cg s.bp s.bm bl Ab' cb2 W ((h1.keep hW).more hW.size) k1 ((g7.keep hW).more hW.size) g4 (by
   have:(natR s.gen).map nz=s.gen:=hF.rows
   rw [this]
   exact (h2.keep hW).more hW.size) (by rw [hrl];have:=hF.len;omega) (fun r hr=>⟨by have:=(hF.grid.2 r hr).1;have:=hF.n2;omega,(hF.grid.2 r hr).2⟩) (by
   have:(natR s.gen).map nz=s.gen:=hF.rows
   rw [this,hnn]
   exact hcz)
  rw [hrl,hnn,<- hab] at h
  exact h
 have HCK:Hid (∀ (W:World) (zs:List Nat) (VA:Option Addr) (c:Nat),(∀ z∈zs,z<s.n.toNat)->zs.length<=64->IntsAt W W.heap.size VA (nz zs)->Calls Tryz.prog 52 #[.int .i64 s.n,.slice VA zs.length c,.agg #[.int .i64 s.r0,.int .i64 s.r1,.int .i64 s.r2,.int .i64 s.r3,.int .i64 s.r4]] W (RunPost W s.n.toNat zs s.r0 s.r1 s.r2 s.r3 s.r4)):=fun W zs VA c hz hl hA=>by
  have h:=runcheck_c s.n.toNat zs VA c s.r0 s.r1 s.r2 s.r3 s.r4 W (by have:=hF.n1;omega) (by have:=hF.n2;omega) (fun z hz2=>by have:=hz z hz2;have:=hF.n2;omega) (by omega) hA
  rw [hnn] at h
  exact h
 have HR:=Lib.hid hr
 clear h1 h2 h3 h4 h5 g1 g4 g7 hF hcz hab hnn hr hf k1 k2 hrl
 go_enter Tryz.func28,Tryz.ntmps28
 go_upto_region 1 with fail
 generalize w.alloc (.cells (stCells s Am Ag Af Aa Ab Ap Aq Ar As At cm cg cf ca cb cp cq cr cs' ct).toArray 40)=W0 at *
 have y0:W0.cell? ⟨w.heap.size,0,none⟩=some (.int .i64 2):=by rw [<- HR.out];exact HX.out.cell rfl
 have HRC:Hid (W0.rangeAt w.heap.size 1 [.int .i64 s.p,.int .i64 s.m,.slice Am s.mod.length cm,.int .i64 s.n,.slice Ag s.gen.length cg]):=HX.out.sub 1 _ (fun j hj=>by rcases j with _ | _ | _ | _ | _ | j <;> first | rfl | (simp at hj;omega))
 have HRB:Hid (W0.rangeAt w.heap.size 9 [.int .i64 s.bp,.int .i64 s.bm,.slice Ab s.bmod cb]):=HX.out.sub 9 _ (fun j hj=>by rcases j with _ | _ | _ | j <;> first | rfl | (simp at hj;omega))
 have HZ1:=Lib.hid (HZ.out W0 HX.out.2.1)
 clear HZ
 go_wp2_with (first
  | (refine wpList_load_mid rfl 32 (.tmp 45) rfl w.heap.size 1 rfl [.int .i64 s.p,.int .i64 s.m,.slice Am s.mod.length cm,.int .i64 s.n,.slice Ag s.gen.length cg] _ HRC.out Tryz.underlying32 rfl codeSize ?_)
  | (refine wpList_load_mid rfl 29 (.tmp 47) rfl w.heap.size 9 rfl [.int .i64 s.bp,.int .i64 s.bm,.slice Ab s.bmod cb] _ HRB.out Tryz.underlying29 rfl fieldSize ?_))
 (with_reducible refine HZ1.out.mono ?_)
 rintro e w1 ⟨⟨VA,k,c,z,rfl,hz⟩,hb1⟩
 have HX1:=Lib.hid (HX.out.grow hb1)
 have HZZ:=Lib.hid hz
 clear hb1 hz HZ1 HX HRC HRB y0
 by_cases hz0:z=0
 rotate_left
 . have hzb : (z != 0) = true := bne_iff_ne.2 hz0
   clear hz0 HZZ
   go_wp2_with fail
   go_ret
   exact ⟨⟨_,rfl,fun h=>by cases h⟩,HX1.out.2.1⟩
 obtain ⟨zs,a,r,rfl,hzl,hza,hex,hzn⟩:=HZZ.out hz0
 subst hz0
 have HEX:=Lib.hid hex
 have HZN:=Lib.hid hzn
 have HC1:=Lib.hid (HCK.out w1 zs VA c (fun z hz=>(hzn z hz).1) hzl hza)
 clear hzl hza hex hzn HZZ HCK
 have y4:w1.cell? ⟨w.heap.size,4,none⟩=some (.int .i64 s.n):=HX1.out.cell rfl
 have HRR:Hid (w1.rangeAt w.heap.size 12 [.int .i64 s.r0,.int .i64 s.r1,.int .i64 s.r2,.int .i64 s.r3,.int .i64 s.r4]):=HX1.out.sub 12 _ (fun j hj=>by rcases j with _ | _ | _ | _ | _ | j <;> first | rfl | (simp at hj;omega))
 go_wp2_with (refine wpList_load_mid rfl 34 (.tmp 59) rfl w.heap.size 12 rfl [.int .i64 s.r0,.int .i64 s.r1,.int .i64 s.r2,.int .i64 s.r3,.int .i64 s.r4] _ HRR.out Tryz.underlying34 rfl runSize ?_)
 (with_reducible refine HC1.out.mono ?_)
 rintro e w2 ⟨⟨bd,z,rfl,hz⟩,hb2⟩
 have HX2:=Lib.hid (HX1.out.grow hb2)
 have HZZ:=Lib.hid hz
 clear hb2 hz HC1 HX1 HRR y4
 have y6:w2.cell? ⟨w.heap.size,6,none⟩=some (.int .i64 s.low):=HX2.out.cell rfl
 by_cases hz0:z=0
 rotate_left
 . have hzb : (z == 0) = false := beq_false_of_ne hz0
   clear hz0 HZZ
   go_wp2_with fail
   go_ret
   exact ⟨⟨false,by first | rfl | simp_all,fun h=>by cases h⟩,HX2.out.2.1⟩
 have HOK:=Lib.hid (HZZ.out hz0)
 subst hz0
 clear HZZ
 by_cases hlo:s.low<=bd
 . have HP : Hid (Leaf2 s bl) := ⟨zs,a,r,bd,HEX.out,HZN.out,HOK.out,hlo⟩
   generalize s.low=low at *
   go_wp2_with fail
   go_ret
   exact ⟨⟨_,rfl,fun _=>HP.out⟩,HX2.out.2.1⟩
 . generalize s.low = low at *
   go_wp2_with fail
   go_ret
   exact ⟨⟨false,by first | rfl | simp_all,fun h=>by cases h⟩,HX2.out.2.1⟩
end Go.Proofs.YtlmglaonldlanaaGreat
namespace Go.Proofs.YtlmglaonldlanaaGreat
open Go.RowKit Pln
open Al (ColsOk)
theorem form_codeZ {d:StD} (hf:formZ d=0):codeZ d.p d.m d.mod d.n d.gen=0:=by
 unfold formZ at hf
 split at hf
 . rename_i hz
   exact absurd hf hz
 . rename_i hz
   exact Classical.byContradiction hz
theorem form_err {d:StD} (hf:formZ d=0):errC d.p d.m d.mod d.n d.gen=0:=by
 obtain ⟨_,_,h3⟩:=codeZ_n (form_codeZ hf)
 unfold spZ at h3
 split at h3
 . rename_i he
   exact absurd h3 he
 . rename_i he
   exact Classical.byContradiction he
theorem ker_grid {q n cols:Nat} {O:Ops} (h:Al.Fld q O) {rows:List (List Nat)} (hG:Grid q n cols rows):(kerM O rows cols).length<=cols/\∀ r∈kerM O rows cols,r.length=cols/\∀ x∈r,x<q:=by
 have hcg:=qdC h.self hG
 have hkg:=qeP (piv:=(elGo O rows cols).piv) h.self h.q1 hcg rfl
 refine ⟨?_,(qdC h.self hkg).2⟩
 unfold kerM
 rw [qbH]
 exact (qbW _ _).1
set_option maxHeartbeats 4000000 in
set_option maxRecDepth 100000 in
theorem itselfL_1 (s:StD) (cs:List Value) (w:World) (hs:StC w w.heap.size s cs) (hf:formZ s=0) (hr:s.rule=1) :
 Calls Tryz.prog 28 #[.agg cs.toArray] w (ItPost w (Leaf1 s)):=by
 obtain ⟨Am,Ag,Af,Aa,Ab,Ap,Aq,Ar,As,At,cm,cg,cf,ca,cb,cp,cq,cr,cs',ct,rfl,_,h1,h2,h3,h4,h5⟩:=hs
 have hF:=qfO hf
 have hnn:((s.n.toNat:Nat):Int)=s.n:=by have:=hF.n1;omega
 have hrl:(natR s.gen).length=s.gen.length:=by unfold natR;rw [List.length_map]
 have hml:s.mod.length<=1000000:=by
  have hs:=qbJ (by have h:=hF.field;unfold fieldOK at h;rw [Bool.and_eq_true] at h;exact h.1:shapeM s.p s.m s.mod=true)
  by_cases hm1:s.m=1
  . rw [hs.one hm1];simp
  . rw [hs.len hm1];have:=hs.small.m2;omega
 have HX:=Lib.hid (qdZ w (stCells s Am Ag Af Aa Ab Ap Aq Ar As At cm cg cf ca cb cp cq cr cs' ct))
 have HCO:Hid (∀ W,Below w.heap.size w W->Calls Tryz.prog 50 #[.agg #[.int .i64 s.p,.int .i64 s.m,.slice Am s.mod.length cm,.int .i64 s.n,.slice Ag s.gen.length cg],.int .i64 s.low] W (ColPost W (opsS s) (kerM (opsS s) (natR s.gen) s.n.toNat) s.n.toNat (decide (s.low=3)))):=fun W hW=>by
  have hkg:=ker_grid (Al.fld_of (qaW hF.field)) hF.grid
  have h:=columns_any s.p s.m s.mod Am cm s.n.toNat (natR s.gen) Ag cg s.low (kerM (opsS s) (natR s.gen) s.n.toNat) W ((h1.keep hW).more hW.size) hml (by rw [hF.rows];exact (h2.keep hW).more hW.size) (by rw [hrl];have:=hF.len;omega) (by rw [hF.rows,hnn];exact form_codeZ hf) (by have:=hF.n1;omega) (by have:=hF.n2;omega) hF.field (by rw [hF.rows,hnn];exact form_err hf) rfl (by have:=hkg.1;have:=hF.n2;unfold opsS;omega) hkg.2
  rw [hrl,hnn] at h
  exact h
 have HR:=Lib.hid hr
 clear h1 h2 h3 h4 h5 hF hnn hr hf hrl hml
 have HP:Hid (s.low<=3->ColsOk (opsS s) (kerM (opsS s) (natR s.gen) s.n.toNat) s.n.toNat (decide (s.low=3))->Leaf1 s):=fun h1 h2=>.inr ⟨h1,h2⟩
 have HP1:Hid (s.low=1->Leaf1 s):=fun h=>.inl h
 generalize Leaf1 s=LF at *
 go_enter Tryz.func28,Tryz.ntmps28
 go_upto_region 1 with fail
 generalize w.alloc (.cells (stCells s Am Ag Af Aa Ab Ap Aq Ar As At cm cg cf ca cb cp cq cr cs' ct).toArray 40)=W0 at *
 have y0:W0.cell? ⟨w.heap.size,0,none⟩=some (.int .i64 1):=by rw [<- HR.out];exact HX.out.cell rfl
 have y6:W0.cell? ⟨w.heap.size,6,none⟩=some (.int .i64 s.low):=HX.out.cell rfl
 have HRC:Hid (W0.rangeAt w.heap.size 1 [.int .i64 s.p,.int .i64 s.m,.slice Am s.mod.length cm,.int .i64 s.n,.slice Ag s.gen.length cg]):=HX.out.sub 1 _ (fun j hj=>by rcases j with _ | _ | _ | _ | _ | j <;> first | rfl | (simp at hj;omega))
 have HC1:=Lib.hid (HCO.out W0 HX.out.2.1)
 clear HCO
 by_cases hl:s.low=1
 . have e1 : (s.low == 1) = true := beq_iff_eq.2 hl
   have HQ:=Lib.hid (HP1.out hl)
   clear hl HC1 HP
   generalize s.low=low at *
   go_wp2_with fail
   go_ret
   exact ⟨⟨_,rfl,fun _=>HQ.out⟩,HX.out.2.1⟩
 have e1:(s.low==1)=false:=beq_false_of_ne hl
 by_cases h3:s.low<=3
 rotate_left
 . clear hl HC1 HP HP1
   generalize s.low=low at *
   have e3:decide (low<=3)=false:=decide_eq_false h3
   go_wp2_with fail
   go_ret
   exact ⟨⟨false,by first | rfl | simp_all,fun h=>by cases h⟩,HX.out.2.1⟩
 have HQ:=Lib.hid (HP.out h3)
 have e3:decide (s.low<=3)=true:=decide_eq_true h3
 clear hl HP HP1
 generalize kerM (opsS s) (natR s.gen) s.n.toNat=K at *
 generalize s.low=low at *
 have y1:W0.cell? ⟨w.heap.size,1,none⟩=some (.int .i64 s.p):=HX.out.cell rfl
 have y2:W0.cell? ⟨w.heap.size,2,none⟩=some (.int .i64 s.m):=HX.out.cell rfl
 have y3:W0.cell? ⟨w.heap.size,3,none⟩=some (.slice Am s.mod.length cm):=HX.out.cell rfl
 have y4:W0.cell? ⟨w.heap.size,4,none⟩=some (.int .i64 s.n):=HX.out.cell rfl
 have y5:W0.cell? ⟨w.heap.size,5,none⟩=some (.slice Ag s.gen.length cg):=HX.out.cell rfl
 go_wp2_with fail
 (with_reducible refine HC1.out.mono ?_)
 rintro e w1 ⟨⟨b,rfl,hb⟩,hb1⟩
 have HX1:=Lib.hid (HX.out.grow hb1)
 have HBB:=Lib.hid hb
 clear hb1 hb HC1 y0 y1 y2 y3 y4 y5 y6
 cases b
 . go_wp2_with fail
   go_ret
   exact ⟨⟨_,rfl,fun h=>by cases h⟩,HX1.out.2.1⟩
 . have HF : Hid LF := HQ.out (by first | exact HBB.out rfl | exact HBB.out trivial | exact HBB.out)
   go_wp2_with fail
   go_ret
   exact ⟨⟨_,rfl,fun _=>HF.out⟩,HX1.out.2.1⟩
end Go.Proofs.YtlmglaonldlanaaGreat
namespace Go.Proofs.YtlmglaonldlanaaGreat
open Go.RowKit Pln
set_option maxHeartbeats 4000000 in
set_option maxRecDepth 100000 in
theorem itselfL_3 (s:StD) (bl pl ml:List Int) (cs:List Value) (w:World) (hs:StC w w.heap.size s cs) (he:StE w w.heap.size s bl pl ml cs) (_ks:s.ok) (hf:formZ s=0) (hr:s.rule=3) :
 Calls Tryz.prog 28 #[.agg cs.toArray] w (ItPost w (Leaf3 s)):=by
 obtain ⟨Am,Ag,Af,Aa,Ab,Ap,Aq,Ar,As,At,cm,cg,cf,ca,cb,cp,cq,cr,cs',ct,rfl,_,h1,h2,h3,h4,h5⟩:=hs
 obtain ⟨Ab',Ap',Aq',cb2,cp2,cq2,_,g2,g3,_,g5,g6,_,g8,g9⟩:=he
 have hF:=qfO hf
 have hml:s.mod.length<=1000000:=by
  have hs:=qbJ (by have h:=hF.field;unfold fieldOK at h;rw [Bool.and_eq_true] at h;exact h.1:shapeM s.p s.m s.mod=true)
  by_cases hm1:s.m=1
  . rw [hs.one hm1];simp
  . rw [hs.len hm1];have:=hs.small.m2;omega
 have hap:Value.slice Ap s.points cp=.slice Ap' pl.length cp2:=by
  have:some (Value.slice Ap s.points cp)=some (.slice Ap' pl.length cp2):=g2
  injection this
 have haq:Value.slice Aq s.mults cq=.slice Aq' ml.length cq2:=by
  have:some (Value.slice Aq s.mults cq)=some (.slice Aq' ml.length cq2):=g3
  injection this
 have eml:maxLen=9223372036854775807:=rfl
 rw [eml] at g5
 have HX:=Lib.hid (qdZ w (stCells s Am Ag Af Aa Ab Ap Aq Ar As At cm cg cf ca cb cp cq cr cs' ct))
 have HGC:Hid (∀ W,Below w.heap.size w W->Calls Tryz.prog 53 #[.agg #[.int .i64 s.p,.int .i64 s.m,.slice Am s.mod.length cm,.int .i64 (s.gen.length:Int),.slice Ap s.points cp,.slice Aq s.mults cq]] W (GcPost W s.p s.m s.mod (s.gen.length:Int) pl ml)):=fun W hW=>by
  have h:=gcode_any s.p s.m s.mod Am cm (s.gen.length:Int) pl Ap' cp2 ml Aq' cq2 W ((h1.keep hW).more hW.size) hml ((g8.keep hW).more hW.size) ((g9.keep hW).more hW.size) g6 g5
  rw [<- hap,<- haq] at h
  exact h
 have HSM:Hid (∀ (W:World) (p' m':Int) (mod':List Int) (A':Option Addr) (c':Nat) (N':Int) (ys:List (List Int)) (G':Option Addr) (g':Nat),Below w.heap.size w W->IntsAt W W.heap.size A' mod'->RowsAt W W.heap.size G' ys->Calls Tryz.prog 32 #[.agg #[.int .i64 s.p,.int .i64 s.m,.slice Am s.mod.length cm,.int .i64 s.n,.slice Ag s.gen.length cg],.agg #[.int .i64 p',.int .i64 m',.slice A' mod'.length c',.int .i64 N',.slice G' ys.length g']] W fun e w'=>∃ b,e=.returned (.bool b)/\Below W.heap.size W w'/\(b=true->s.p=p'/\s.m=m'/\s.mod=mod'/\s.n=N'/\s.gen=ys)):=fun W p' m' mod' A' c' N' ys G' g' hW hA' hG' =>
  dsame_c s.p s.m p' m' s.mod mod' Am A' cm c' s.n N' s.gen ys Ag G' cg g' W ((h1.keep hW).more hW.size) hA' (by omega) ((h2.keep hW).more hW.size) hG' (by have:=hF.len;omega) (fun k hk=>by
   have hn:=hF.rows
   have hk2:k<(natR s.gen).length:=by unfold natR;rw [List.length_map];exact hk
   have e:s.gen.getD k []=nz ((natR s.gen).getD k []):=by
    conv=>lhs;rw [<- hn]
    simp [nzs,List.getD,hk2]
   have e2:(natR s.gen).getD k []∈natR s.gen:=by
    have:(natR s.gen).getD k []=(natR s.gen)[k]:=by simp [List.getD,hk2]
    rw [this]
    exact List.getElem_mem hk2
   rw [e,qaB,(hF.grid.2 _ e2).1]
   have:=hF.n2
   omega)
 have hgl:=hF.len
 have hn1:=hF.n1
 have hn2:=hF.n2
 have HR:=Lib.hid hr
 clear h1 h2 h3 h4 h5 g2 g3 g5 g6 g8 g9 hF hml hap haq hr hf
 go_enter Tryz.func28,Tryz.ntmps28
 go_upto_region 1 with fail
 generalize w.alloc (.cells (stCells s Am Ag Af Aa Ab Ap Aq Ar As At cm cg cf ca cb cp cq cr cs' ct).toArray 40)=W0 at *
 have y0:W0.cell? ⟨w.heap.size,0,none⟩=some (.int .i64 3):=by rw [<- HR.out];exact HX.out.cell rfl
 have y5:W0.cell? ⟨w.heap.size,5,none⟩=some (.slice Ag s.gen.length cg):=HX.out.cell rfl
 have y17:W0.cell? ⟨w.heap.size,17,none⟩=some (.slice Ap s.points cp):=HX.out.cell rfl
 have y18:W0.cell? ⟨w.heap.size,18,none⟩=some (.slice Aq s.mults cq):=HX.out.cell rfl
 have HRF:Hid (W0.rangeAt w.heap.size 1 [.int .i64 s.p,.int .i64 s.m,.slice Am s.mod.length cm]):=HX.out.sub 1 _ (fun j hj=>by rcases j with _ | _ | _ | j <;> first | rfl | (simp at hj;omega))
 have HG1:=Lib.hid (HGC.out W0 HX.out.2.1)
 clear HGC
 go_wp2_with (refine wpList_load_mid rfl 29 (.tmp 80) rfl w.heap.size 1 rfl [.int .i64 s.p,.int .i64 s.m,.slice Am s.mod.length cm] _ HRF.out Tryz.underlying29 rfl fieldSize ?_)
 (with_reducible refine HG1.out.mono ?_)
 rintro e w1 ⟨⟨A',R,n',c',rl,k,p',m',nn,z,rfl,hz⟩,hb1⟩
 have HX1:=Lib.hid (HX.out.grow hb1)
 have HZZ:=Lib.hid hz
 clear hb1 hz HG1 HX HRF y0 y5 y17 y18
 go_upto_region 15 with (refine qaI rfl 32 (.tmp 7) (.tmp 89) rfl w1 _ #[.int .i64 p',.int .i64 m',.slice A' n' c',.int .i64 nn,.slice R rl k] rfl rfl codeSize rfl (by simp [Value.oneCell']) ?_)
 have hba:Below w1.heap.size w1 (w1.alloc (.cells #[.int .i64 p',.int .i64 m',.slice A' n' c',.int .i64 nn,.slice R rl k] 32)):=(Below.refl _ _).alloc (Nat.le_refl _) _
 have HBA:=Lib.hid hba
 have HX2:=Lib.hid (HX1.out.grow hba)
 have HK2:Hid ((w1.alloc (.cells #[.int .i64 p',.int .i64 m',.slice A' n' c',.int .i64 nn,.slice R rl k] 32)).heap[w1.heap.size]?=some (.cells #[.int .i64 p',.int .i64 m',.slice A' n' c',.int .i64 nn,.slice R rl k] 32 (0,0))):=heap_alloc_new _ _
 clear hba HX1
 generalize w1.alloc (.cells #[.int .i64 p',.int .i64 m',.slice A' n' c',.int .i64 nn,.slice R rl k] 32)=w2 at *
 by_cases hz0:z=0
 rotate_left
 . have hzb : (z == 0) = false := beq_false_of_ne hz0
   clear hz0 HZZ HSM
   go_wp2_with fail
   go_ret
   exact ⟨⟨false,by first | rfl | simp_all,fun h=>by cases h⟩,HX2.out.2.1⟩
 obtain ⟨L,M,Kn,hL,hM,hK,hok,e1,e2,e3,e4,e5,hA',hR'⟩:=HZZ.out hz0
 subst hz0
 have hgn:GrsN s.p s.m s.mod Kn L M:=by
  rw [hL,hM,hK] at hok
  exact hok.nats
 have HGN:=Lib.hid hgn
 have HKN:Hid (s.gen.length=Kn):=by show _=_;omega
 subst e1
 subst e2
 subst e3
 subst e4
 have hrl:rl=(nzs (finG s.p s.m s.mod L M Kn)).length:=by rw [e5,qbC]
 clear e5
 subst hrl
 have HS1:=Lib.hid (HSM.out w2 s.p s.m s.mod A' c' (L.length:Int) (nzs (finG s.p s.m s.mod L M Kn)) R k HX2.out.2.1 ((hA'.keep HBA.out).more HBA.out.size) ((hR'.keep HBA.out).more HBA.out.size))
 clear hL hM hK hok hA' hR' HZZ HSM hgn
 have HP:Hid (s.n=(L.length:Int)->s.gen=nzs (finG s.p s.m s.mod L M Kn)->s.low<=s.n-(s.gen.length:Int)+1->Leaf3 s):=fun h1 h2 h3=>⟨L,M,Kn,HGN.out,h1,h2,HKN.out.symm,by rw [HKN.out] at h3;exact h3⟩
 generalize nzs (finG s.p s.m s.mod L M Kn)=FG at *
 have y1:w2.cell? ⟨w.heap.size,1,none⟩=some (.int .i64 s.p):=HX2.out.cell rfl
 have y2:w2.cell? ⟨w.heap.size,2,none⟩=some (.int .i64 s.m):=HX2.out.cell rfl
 have y3:w2.cell? ⟨w.heap.size,3,none⟩=some (.slice Am s.mod.length cm):=HX2.out.cell rfl
 have y4:w2.cell? ⟨w.heap.size,4,none⟩=some (.int .i64 s.n):=HX2.out.cell rfl
 have y5:w2.cell? ⟨w.heap.size,5,none⟩=some (.slice Ag s.gen.length cg):=HX2.out.cell rfl
 have x0:w2.cell? ⟨w1.heap.size,0,none⟩=some (.int .i64 s.p):=cell_of_row _ _ 0 _ _ _ HK2.out
 have x1:w2.cell? ⟨w1.heap.size,1,none⟩=some (.int .i64 s.m):=cell_of_row _ _ 1 _ _ _ HK2.out
 have x2:w2.cell? ⟨w1.heap.size,2,none⟩=some (.slice A' s.mod.length c'):=cell_of_row _ _ 2 _ _ _ HK2.out
 have x3:w2.cell? ⟨w1.heap.size,3,none⟩=some (.int .i64 (L.length:Int)):=cell_of_row _ _ 3 _ _ _ HK2.out
 have x4:w2.cell? ⟨w1.heap.size,4,none⟩=some (.slice R FG.length k):=cell_of_row _ _ 4 _ _ _ HK2.out
 go_wp2_with fail
 (with_reducible refine HS1.out.mono ?_)
 rintro e w3 ⟨b,rfl,hb3,hbb⟩
 have HX3:=Lib.hid (HX2.out.grow hb3)
 have HBB:=Lib.hid hbb
 clear hb3 hbb HS1 y1 y2 y3 y4 y5 x0 x1 x2 x3 x4 HX2 HK2
 cases b
 . go_wp2_with fail
   go_ret
   exact ⟨⟨false,by first | rfl | simp_all,fun h=>by cases h⟩,HX3.out.2.1⟩
 . have HB4 : Hid (s.n = (L.length : Int) /\ s.gen = FG) := by
    have h:=HBB.out rfl
    exact ⟨h.2.2.2.1,h.2.2.2.2⟩
   have HQ:=Lib.hid (HP.out HB4.out.1 HB4.out.2)
   have y6:w3.cell? ⟨w.heap.size,6,none⟩=some (.int .i64 s.low):=HX3.out.cell rfl
   have y4:w3.cell? ⟨w.heap.size,4,none⟩=some (.int .i64 s.n):=HX3.out.cell rfl
   clear HBB HP HB4
   have i1:IntKind.i64.wrap (s.n-(s.gen.length:Int))=s.n-(s.gen.length:Int):=IntWalk.i64_in _ (by omega)
   have i2:IntKind.i64.wrap (s.n-(s.gen.length:Int)+1)=s.n-(s.gen.length:Int)+1:=IntWalk.i64_in _ (by omega)
   by_cases hlo:s.low<=s.n-(s.gen.length:Int)+1
   . have HL := Lib.hid (HQ.out hlo)
     go_wp2_with fail
     go_ret
     exact ⟨⟨_,rfl,fun _=>HL.out⟩,HX3.out.2.1⟩
   . go_wp2_with fail
     go_ret
     exact ⟨⟨false,by first | rfl | simp_all,fun h=>by cases h⟩,HX3.out.2.1⟩
end Go.Proofs.YtlmglaonldlanaaGreat
