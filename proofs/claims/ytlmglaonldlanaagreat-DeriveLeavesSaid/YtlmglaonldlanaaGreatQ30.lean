/-
 code.own, code.of, code.New where nothing is wrong; modify.gen. code.of, code.New where nothing is wrong. code.own, code.of at a field without a polynomial; code.Dual at the code of 000 and 111. The reference: Of. The reference: Least. The reference: True; a code that is one.
-/
import Derived.Test.YtlmglaonldlanaaGreatQ29
import Derived.Test.YtlmglaonldlanaaGreatQ28
import Derived.Test.YtlmglaonldlanaaGreatQ18
import Derived.Test.YtlmglaonldlanaaGreatQ27
namespace Go.Proofs.YtlmglaonldlanaaGreat
open Go.RowKit Pln
end Go.Proofs.YtlmglaonldlanaaGreat
namespace Go.Proofs.YtlmglaonldlanaaGreat
open Go.RowKit Pln
structure BoxC (w:World) (f a r:List Value) (W:World):Prop where
 below:Below w.heap.size w W
 size:w.heap.size+2<W.heap.size
 k0:W.heap[w.heap.size]?=some (.cells f.toArray 29 (0,0))
 k1:W.heap[w.heap.size+1]?=some (.cells a.toArray 54 (0,0))
 k2:W.heap[w.heap.size+1+1]?=some (.cells r.toArray 32 (0,0))
section
variable {w:World} {f a r:List Value} {W W':World}
theorem BoxC.keep (h:BoxC w f a r W) (hb:Below W.heap.size W W'):BoxC w f a r W':=by
 have hs:=h.size
 exact ⟨h.below.trans (hb.mono (by omega)),Nat.lt_of_lt_of_le hs hb.size,(hb.block _ (by omega)).trans h.k0,(hb.block _ (by omega)).trans h.k1,(hb.block _ (by omega)).trans h.k2⟩
theorem BoxC.set (h:BoxC w f a r W) (r':List Value):BoxC w f a r' (W.setRow (w.heap.size+1+1) r'.toArray) :=
 ⟨qbD h.below (by omega) _,by simpa using h.size,(setRow_other W _ _ _ (by omega)).trans h.k0,(setRow_other W _ _ _ (by omega)).trans h.k1,qbI W _ _ _ _ h.k2⟩
theorem boxC (w:World) (f a r:Array Value):BoxC w f.toList a.toList r.toList (((w.alloc (.cells f 29)).alloc (.cells a 54)).alloc (.cells r 32)):=by
 refine ⟨(((Below.refl _ _).alloc (Nat.le_refl _) _).alloc (by simp) _).alloc (by simp;omega) _,by simp,?_,?_,?_⟩
 . exact (heap_alloc_old _ _ (by simp;omega)).trans ((heap_alloc_old _ _ (by simp)).trans (heap_alloc_new _ _))
 . exact (heap_alloc_old _ _ (by simp)).trans (qbM (by simp) _)
 . exact qbM (by simp) _
end
set_option maxHeartbeats 1000000 in
set_option maxRecDepth 100000 in
theorem canonical2_c (p m:Int) (mod:List Int) (Am:Option Addr) (cm:Nat) (cols:Nat) (rows:List (List Nat)) (A:Option Addr) (c:Nat) (w:World) (hM:IntsAt w w.heap.size Am mod) (hl:mod.length<=9223372036854775807)
 (hA:RowsAt w w.heap.size A (nzs rows)) (h1:1<=cols) (herr:errC p m mod cols (nzs rows)=0) :
 Calls Tryz.prog 141 #[.agg #[.int .i64 p,.int .i64 m,.slice Am mod.length cm],.agg #[.int .i64 (cols:Int),.slice A rows.length c]] w fun e w'=>(∃ (R:Nat) (VA:Option Addr) (ck:Nat),e=.returned (.tuple #[.agg #[.int .i64 (cols:Int),.slice (some ⟨R,0,none⟩) (canonM (opsT p.toNat m.toNat (lOf p m mod)) rows cols).length (canonM (opsT p.toNat m.toNat (lOf p m mod)) rows cols).length],.slice VA (canonM (opsT p.toNat m.toNat (lOf p m mod)) rows cols).length ck,.int .i64 0])/\RowsUp w' (w.heap.size+1+1+1) (some ⟨R,0,none⟩) (nzs (canonM (opsT p.toNat m.toNat (lOf p m mod)) rows cols))/\IntsUp w' (w.heap.size+1+1+1) VA (nz (elGo (opsT p.toNat m.toNat (lOf p m mod)) rows cols).piv))/\Below w.heap.size w w':=by
 obtain ⟨hok,hz,hgr,_,hc1,hn⟩:=errC_grid herr
 rw [Int.toNat_natCast] at hgr
 have HX:=Lib.hid ((box3 w p m Am mod.length cm cols A rows.length c 54 #[.int .i64 0,.slice none 0 0]).keep ((Below.refl _ _).alloc (Nat.le_refl _) (.cells #[.int .i64 (cols:Int),.slice A rows.length c] 54)))
 have HK3:Hid (((((w.alloc (.cells #[.int .i64 p,.int .i64 m,.slice Am mod.length cm] 29)).alloc (.cells #[.int .i64 (cols:Int),.slice A rows.length c] 54)).alloc (.cells #[.int .i64 0,.slice none 0 0] 54)).alloc (.cells #[.int .i64 (cols:Int),.slice A rows.length c] 54)).heap[w.heap.size+1+1+1]?=some (.cells #[.int .i64 (cols:Int),.slice A rows.length c] 54 (0,0))):=qbM (by simp) _
 have HM:=Lib.hid hM
 have HA:=Lib.hid hA
 have HFT:=Lib.hid (qaW hok)
 have HGR:=Lib.hid hgr
 clear hM hA herr
 go_enter Tryz.func141,Tryz.ntmps141
 go_wp2_with fail
 generalize (((w.alloc (.cells #[.int .i64 p,.int .i64 m,.slice Am mod.length cm] 29)).alloc (.cells #[.int .i64 (cols:Int),.slice A rows.length c] 54)).alloc (.cells #[.int .i64 0,.slice none 0 0] 54)).alloc (.cells #[.int .i64 (cols:Int),.slice A rows.length c] 54)=W0 at *
 have HC:=Lib.hid (open_c p m mod Am cm cols (nzs rows) A c (w.heap.size+1+1+1) 1 W0 ((HM.out.keep HX.out.below).more HX.out.below.size) hl ((HA.out.keep HX.out.below).more HX.out.below.size) (by rw [qbC];omega) (by rw [qbC];exact HK3.out))
 (with_reducible refine HC.out.mono ?_)
 rintro e w1 ⟨hb1,hcase⟩
 have HX1:=Lib.hid (HX.out.keep hb1)
 have HA1:=Lib.hid ((HA.out.keep HX1.out.below).more HX1.out.below.size)
 clear HX HM HA HC HK3 hb1
 clear W0
 rcases hcase with ⟨hok',_⟩ | ⟨_,hz',_⟩ | ⟨_,_,gb,rfl,hg⟩
 . rw [hok] at hok';cases hok'
 . exact absurd hz hz'
 clear hok hz
 have HCA:=Lib.hid (canon2_c gb w1.heap.size p.toNat m.toNat cols (mdOf m mod) (lOf p m mod) rows A c w1 HFT.out hg (Nat.le_refl _) HA1.out HGR.out h1 (by omega) hn)
 have hs1:=HX1.out.size
 have hs2:w.heap.size+1<w1.heap.size:=by omega
 have a0:w1.cell? ⟨w.heap.size+1,0,none⟩=some (.int .i64 (cols:Int)):=cell_of_row _ _ 0 _ _ _ HX1.out.k1
 have a1:w1.cell? ⟨w.heap.size+1,1,none⟩=some (.slice A rows.length c):=cell_of_row _ _ 1 _ _ _ HX1.out.k1
 clear hg HA1
 generalize hpiv:(elGo (opsT p.toNat m.toNat (lOf p m mod)) rows cols).piv=piv at *
 generalize hout:canonM (opsT p.toNat m.toNat (lOf p m mod)) rows cols=out at *
 have HPIV:=Lib.hid hpiv
 have HOUT:=Lib.hid hout
 clear hpiv hout
 go_wp2_with fail
 (with_reducible refine HCA.out.mono ?_)
 rintro e w2 ⟨⟨R,VA,ck,rfl,hru,hpv⟩,hb2⟩
 have HX2:=Lib.hid (HX1.out.keep hb2)
 have HRU:=Lib.hid hru
 have HPV:=Lib.hid hpv
 have HK22:=Lib.hid HX2.out.k2
 clear hru hpv hb2 HCA HX1 a0 a1
 have a0:w2.cell? ⟨w.heap.size+1,0,none⟩=some (.int .i64 (cols:Int)):=cell_of_row _ _ 0 _ _ _ HX2.out.k1
 have HY:=Lib.hid (HX2.out.set #[.int .i64 (cols:Int),.slice (some ⟨R,0,none⟩) out.length out.length])
 go_wp2_with (refine qaE rfl 54 (.tmp 4) (.tmp 34) rfl w2 (w.heap.size+1+1) 54 #[.int .i64 0,.slice none 0 0] #[.int .i64 (cols:Int),.slice (some ⟨R,0,none⟩) out.length out.length] rfl rfl HK22.out matSize rfl (by simp [Value.oneCell']) ?_)
 refine bodyPost_ret (qcK (P:=Tryz.prog) rfl _ _ (w.heap.size+1+1) 54 #[.int .i64 (cols:Int),.slice (some ⟨R,0,none⟩) out.length out.length] (0,0) _ _ _ rfl rfl rfl HY.out.k2 Tryz.underlying54 rfl matSize) rfl ?_
 rw [HPIV.out,HOUT.out]
 refine ⟨⟨R,VA,ck,rfl,?_,?_⟩,HY.out.below⟩
 . have h1 := HRU.out.setRow (show w.heap.size + 1 + 1 < w1.heap.size by omega) #[.int .i64 (cols : Int),.slice (some ⟨R,0,none⟩) out.length out.length]
   exact h1.lower (by omega)
 . have h1 : IntsUp (w2.setRow (w.heap.size + 1 + 1) #[.int .i64 (cols : Int),.slice (some ⟨R,0,none⟩) out.length out.length]) w1.heap.size VA (nz piv) := HPV.out.of_blocks (by simp) fun k hk _ => setRow_other w2 (w.heap.size + 1 + 1) k _ (by omega)
   exact h1.lower (by omega)
end Go.Proofs.YtlmglaonldlanaaGreat
namespace Go.Proofs.YtlmglaonldlanaaGreat
open Go.RowKit Pln
section
variable {P:Program} {S:World->Prop} {K:Act->World->Prop} {o:Oper} {r:List (Nat × Oper)} {a:Act} {w:World}
theorem qcU (hg:o.guard=none) (ty:TypeId) (x y:Operand) (ho:o.op=.store ty x y)
 (b:Nat) (t:TypeId) (c c':Array Value) (hx:a.eval x=.pointer (some ⟨b,0,none⟩)) (hy:a.eval y=.agg c') (hb:w.heap[b]?=some (.cells c t (0,0)))
 (hi:(P.info? ty).map (·.size)=some c'.size) (hs:c.size=c'.size) (h1:c'.all (·.oneCell')=true)
 (h:wpMixF P S K r (a.put o.dst undef) (w.setRow b c')):wpMixF P S K ((3,o) :: r) a w :=
 mixf_store hg (by
  unfold execOp
  simp only [ho,hx,hy,Instr.storeAt,Instr.sureAddr,Sem.run_bind,Sem.run_pure,Result.andThen_ok,run_storeVar_row w b t ty c c' hb hi hs h1]) h
end
set_option maxRecDepth 100000 in
theorem clone_nil (w:World):Calls Tryz.prog 74 #[.slice none 0 0] w fun e w'=>e=.returned (.slice none 0 0)/\w=w':=by
 have hen:∀ (W:World),(binOp .eql 23 (.slice none 0 0) (.slice none 0 0)).run Tryz.prog W=.ok (.bool true) W:=fun W=>Lib.run_eql_slice_nil W 23 3 none 0 0 0 0 Tryz.underlying23
 go_enter Tryz.func74,Tryz.ntmps74
 go_wp2_with fail
 go_ret
 exact ⟨rfl,rfl⟩
set_option maxHeartbeats 1000000 in
set_option maxRecDepth 100000 in
theorem own_nil (p m:Int) (w:World) :
 Calls Tryz.prog 201 #[.agg #[.int .i64 p,.int .i64 m,.slice none 0 0]] w fun e w'=>e=.returned (.agg #[.int .i64 p,.int .i64 m,.slice none 0 0])/\Below w.heap.size w w':=by
 have HB0:Hid (Below w.heap.size w ((w.alloc (.cells #[.int .i64 p,.int .i64 m,.slice none 0 0] 29)).alloc (.cells #[.int .i64 0,.int .i64 0,.slice none 0 0] 29))):=((Below.refl _ _).alloc (Nat.le_refl _) _).alloc (by simp) _
 have HK0:Hid (((w.alloc (.cells #[.int .i64 p,.int .i64 m,.slice none 0 0] 29)).alloc (.cells #[.int .i64 0,.int .i64 0,.slice none 0 0] 29)).heap[w.heap.size]?=some (.cells [.int .i64 p,.int .i64 m,.slice none 0 0].toArray 29 (0,0))):=(Below.heap_alloc _ _ _ (by simp)).trans (heap_alloc_new _ _)
 have HK1:Hid (((w.alloc (.cells #[.int .i64 p,.int .i64 m,.slice none 0 0] 29)).alloc (.cells #[.int .i64 0,.int .i64 0,.slice none 0 0] 29)).heap[w.heap.size+1]?=some (.cells #[.int .i64 0,.int .i64 0,.slice none 0 0] 29 (0,0))):=qbM (by simp) _
 go_enter Tryz.func201,Tryz.ntmps201
 go_wp2_with fail
 generalize (w.alloc (.cells #[.int .i64 p,.int .i64 m,.slice none 0 0] 29)).alloc (.cells #[.int .i64 0,.int .i64 0,.slice none 0 0] 29)=W0 at *
 (with_reducible refine (clone_nil W0).mono ?_)
 rintro e w1 ⟨rfl,rfl⟩
 have y2:W0.cell? ⟨w.heap.size,2,none⟩=some (.slice none 0 0):=cell_of_row _ _ 2 _ _ _ HK0.out
 have f2:W0.frozen? ⟨w.heap.size,2,none⟩=false:=by simp [World.frozen?,HK0.out]
 have K0:=Lib.hid (qaT HK0.out 2 (.slice none 0 0))
 have K1:=Lib.hid ((Below.heap_setCell W0 ⟨w.heap.size,2,none⟩ (.slice none 0 0) (w.heap.size+1) (by show w.heap.size+1≠w.heap.size;omega)).trans HK1.out)
 have HB2:=Lib.hid (HB0.out.setCell (p:=⟨w.heap.size,2,none⟩) (Nat.le_refl _) (.slice none 0 0))
 go_upto_region 2 with fail
 generalize W0.setCell ⟨w.heap.size,2,none⟩ (.slice none 0 0)=w2 at *
 clear y2 f2
 have HRG:Hid (w2.rangeAt w.heap.size 0 [.int .i64 p,.int .i64 m,.slice none 0 0]):=qaC K0.out
 have HK2:Hid ((w2.setRow (w.heap.size+1) #[.int .i64 p,.int .i64 m,.slice none 0 0]).heap[w.heap.size+1]?=some (.cells #[.int .i64 p,.int .i64 m,.slice none 0 0] 29 (0,0))):=qbI _ _ _ _ _ K1.out
 go_wp2_with (first | (refine wpList_load_mid rfl 29 (.tmp 1) rfl w.heap.size 0 rfl [.int .i64 p,.int .i64 m,.slice none 0 0] _ HRG.out Tryz.underlying29 rfl fieldSize ?_) | (refine qaE rfl 29 (.tmp 2) (.tmp 7) rfl w2 (w.heap.size+1) 29 #[.int .i64 0,.int .i64 0,.slice none 0 0] #[.int .i64 p,.int .i64 m,.slice none 0 0] rfl rfl K1.out fieldSize rfl (by simp [Value.oneCell']) ?_))
 refine bodyPost_ret (results_cell_row (P:=Tryz.prog) rfl _ _ (w.heap.size+1) 29 #[.int .i64 p,.int .i64 m,.slice none 0 0] (0,0) _ rfl HK2.out Tryz.underlying29 rfl fieldSize) rfl ?_
 exact ⟨rfl,qbD HB2.out (by omega) _⟩
set_option maxHeartbeats 1000000 in
set_option maxRecDepth 100000 in
theorem of_nil (p m cols:Int) (A:Option Addr) (n c:Nat) (w:World) :
 Calls Tryz.prog 157 #[.agg #[.int .i64 p,.int .i64 m,.slice none 0 0],.agg #[.int .i64 cols,.slice A n c],.int .i64 0] w fun e w'=>e=.returned (.tuple #[.agg #[.int .i64 p,.int .i64 m,.slice none 0 0,.int .i64 cols,.slice A n c],.int .i64 0])/\Below w.heap.size w w':=by
 have HX:Hid (BoxC w [.int .i64 p,.int .i64 m,.slice none 0 0] [.int .i64 cols,.slice A n c] [.int .i64 0,.int .i64 0,.slice none 0 0,.int .i64 0,.slice none 0 0] (((w.alloc (.cells #[.int .i64 p,.int .i64 m,.slice none 0 0] 29)).alloc (.cells #[.int .i64 cols,.slice A n c] 54)).alloc (.cells #[.int .i64 0,.int .i64 0,.slice none 0 0,.int .i64 0,.slice none 0 0] 32))):=boxC w _ _ _
 go_enter Tryz.func157,Tryz.ntmps157
 go_upto_region 3 with fail
 generalize ((w.alloc (.cells #[.int .i64 p,.int .i64 m,.slice none 0 0] 29)).alloc (.cells #[.int .i64 cols,.slice A n c] 54)).alloc (.cells #[.int .i64 0,.int .i64 0,.slice none 0 0,.int .i64 0,.slice none 0 0] 32)=W0 at *
 have HRNG:Hid (∀ W,LSt W0 W->W.rangeAt w.heap.size 0 [.int .i64 p,.int .i64 m,.slice none 0 0]):=fun W hW=>qaC (HX.out.keep hW).k0
 have HCV:Hid (∀ W,LSt W0 W->W.cell? ⟨w.heap.size+1,0,none⟩=some (.int .i64 cols)/\W.cell? ⟨w.heap.size+1,1,none⟩=some (.slice A n c)):=fun W hW=>⟨cell_of_row _ _ 0 _ _ _ (HX.out.keep hW).k1,cell_of_row _ _ 1 _ _ _ (HX.out.keep hW).k1⟩
 have HS0:Hid (LSt W0 W0.drew):=(Below.refl _ _).drew
 refine qbL 7 (LSt W0) [(true,0),(true,2),(true,3),(true,4),(true,5),(false,1),(true,6)] default (by kernel_rfl) (by kernel_rfl) (fun _ _ d _ _ h=>by cases d <;> exact h) HS0.out ?_
 simp only [List.map_cons,List.map_nil,List.getD_cons_zero,List.getD_cons_succ]
 refine qdN rfl 29 (.tmp 3) rfl w.heap.size 0 rfl [.int .i64 p,.int .i64 m,.slice none 0 0] _ HRNG.out Tryz.underlying29 rfl fieldSize ?_
 go_simp
 iterate 4
  apply qdA rfl
  . intro W hW
    obtain ⟨z0,z1⟩:=HCV.out W hW
    go_simp
    rfl
  go_simp
 apply qdB rfl
 . go_simp
   exact ⟨rfl,rfl⟩
 with_reducible refine (own_nil p m W0.drew).mono ?_
 rintro e w1 ⟨rfl,hb1⟩
 refine ⟨_,rfl,HS0.out.trans hb1,?_⟩
 go_simp
 apply qdA rfl
 . intro W hW
   go_simp
   rfl
 go_simp
 refine qeU ?_
 have HX1:=Lib.hid (HX.out.keep (HS0.out.trans hb1))
 have HK2:=Lib.hid HX1.out.k2
 have HY:=Lib.hid (HX1.out.set [.int .i64 p,.int .i64 m,.slice none 0 0,.int .i64 cols,.slice A n c])
 clear hb1
 go_wp2_with (refine qaE rfl 32 (.tmp 6) (.tmp 18) rfl w1 (w.heap.size+1+1) 32 #[.int .i64 0,.int .i64 0,.slice none 0 0,.int .i64 0,.slice none 0 0] #[.int .i64 p,.int .i64 m,.slice none 0 0,.int .i64 cols,.slice A n c] rfl rfl HK2.out codeSize rfl (by simp [Value.oneCell']) ?_)
 refine bodyPost_ret (qaP (P:=Tryz.prog) rfl _ _ (w.heap.size+1+1) 32 #[.int .i64 p,.int .i64 m,.slice none 0 0,.int .i64 cols,.slice A n c] (0,0) _ _ rfl rfl HY.out.k2 Tryz.underlying32 rfl codeSize) rfl ?_
 exact ⟨rfl,HY.out.below⟩
end Go.Proofs.YtlmglaonldlanaaGreat
namespace Go.Proofs.YtlmglaonldlanaaGreat
open Go.RowKit Pln
theorem inV_nat {p m:Nat} {md:List Nat} {A:Option Addr} {n cols:Nat} {rows:List (List Nat)} {Ah:Option Addr} {w:World} (h:RCode p m md A n cols rows Ah w) (x:Int):∃ y:Nat,inV p m x=(y:Int)/\y<p ^ m:=by
 have hq:=h.fld.small.q
 have ho:=qdD h.fld.small.p1 h.fld.small.p2 h.fld.small.m1 h.fld.small.m2
 rw [if_neg (by omega)] at ho
 obtain ⟨q2,_⟩:=h.q2
 unfold inV
 rw [ho]
 generalize p ^ m=q at *
 by_cases hb:inB (q:Int) x=true
 . rw [if_pos hb]
   unfold inB at hb
   rw [Bool.and_eq_true,decide_eq_true_eq,decide_eq_true_eq] at hb
   exact ⟨x.toNat,by omega,by omega⟩
 . rw [if_neg hb]
   exact ⟨0,rfl,by omega⟩
def RelOf (w:World) (cs:List Value) (g k q:Nat) (v6:Value) (wr:World):Prop :=
 ∃ (i:Nat) (l:List Nat),i<=k/\v6=.int .i64 i/\BX w cs 32 wr/\Row wr (w.heap.size+1) g k (nz l)/\l.length=k/\∀ x∈l,x<q
def OSc (w:World) (cs:List Value) (bz oz i:Nat) (x:Int) (W:World):Prop:=BX w cs 32 W/\W.cell? ⟨bz,oz+i,none⟩=some (.int .i64 x)
set_option maxHeartbeats 1000000 in
set_option maxRecDepth 100000 in
theorem rof_c {p m:Nat} {md:List Nat} {A:Option Addr} {n cols:Nat} {rows:List (List Nat)} {Ah:Option Addr} {w:World} (h:RCode p m md A n cols rows Ah w) (c ch:Nat) (zs:List Int) (Az:Option Addr) (cz:Nat) (hz:IntsAt w w.heap.size Az zs) (hzl:zs.length<=9223372036854775807) :
 Calls Tryz.prog 12 #[.agg #[.int .i64 p,.int .i64 m,.slice A n c,.int .i64 cols,.slice Ah rows.length ch],.slice Az zs.length cz] w fun e w'=>(∃ (g:Nat) (msg:List Nat),e=.returned (.slice (some ⟨g,0,none⟩) cols cols)/\msg.length=rows.length/\(∀ x∈msg,x<p ^ m)/\Row w' w.heap.size g cols (nz (cwO p m md cols rows msg))/\(cwO p m md cols rows msg).length=cols)/\Below w.heap.size w w':=by
 have HX:=Lib.hid (qcY w [.int .i64 (p:Int),.int .i64 (m:Int),.slice A n c,.int .i64 (cols:Int),.slice Ah rows.length ch] 32)
 have HIN:Hid (∀ x,∃ y:Nat,inV p m x=(y:Int)/\y<p ^ m):=inV_nat h
 have HRI:Hid (∀ (x:Int) (W:World),Calls Tryz.prog 22 #[.agg #[.int .i64 p,.int .i64 m,.slice A n c],.int .i64 x] W fun e w'=>e=.returned (.int .i64 (inV p m x))/\Below W.heap.size W w'):=fun x W=>rinG_c p m A n c x W
 have HZ:=Lib.hid hz
 have hlen:=h.len
 obtain ⟨q2,q3⟩:=h.q2
 have HC:Hid (∀ (msg:List Nat) (g:Nat) (W:World),Below w.heap.size w W->Row W (w.heap.size+1) g rows.length (nz msg)->(∀ x∈msg,x<p ^ m)->msg.length=rows.length->Calls Tryz.prog 23 #[.agg #[.int .i64 p,.int .i64 m,.slice A n c],.slice (some ⟨g,0,none⟩) rows.length rows.length,.slice Ah rows.length ch,.int .i64 cols] W fun e w'=>(∃ g,e=.returned (.slice (some ⟨g,0,none⟩) cols cols)/\Row w' W.heap.size g cols (nz (cwO p m md cols rows msg))/\(cwO p m md cols rows msg).length=cols/\∀ x∈cwO p m md cols rows msg,x<p ^ m)/\Below W.heap.size W w'):=fun msg g W hW hr hm hl =>
  (h.lift hW).comb msg _ c _ ch (row_ints hr) hm hl
 obtain ⟨i0,hi0,hz0,hz1,hz2⟩:=qaG infoInt
 have HI:=Lib.hid hi0
 have HZ0:=Lib.hid hz0
 have HZ1:=Lib.hid hz1
 have HB2:=Lib.hid (show i0.bytes*rows.length<=281474976710656 by rw [hz2];omega)
 have HB3:=Lib.hid (show rows.length<=maxLen by unfold maxLen;omega)
 clear h hz hi0 hz0 hz1 hz2
 generalize cwO p m md cols rows=cw at *
 generalize p ^ m=q at *
 generalize rows.length=k at *
 generalize inV (p:Int) (m:Int)=iv at *
 go_enter Tryz.func12,Tryz.ntmps12
 go_upto_region 1 with fail
 have hsz0:w.heap.size+1<=(w.alloc (.cells #[.int .i64 (p:Int),.int .i64 (m:Int),.slice A n c,.int .i64 (cols:Int),.slice Ah k ch] 32)).heap.size:=by simp
 generalize w.alloc (.cells #[.int .i64 (p:Int),.int .i64 (m:Int),.slice A n c,.int .i64 (cols:Int),.slice Ah k ch] 32)=W0 at *
 have c4:W0.cell? ⟨w.heap.size,4,none⟩=some (.slice Ah k ch):=HX.out.cell rfl
 go_wp2_with (refine wpList_make_full W0 rfl (.tmp 9) (.tmp 9) 23 rfl (w.heap.size+1) 3 i0 (.int .i64 0) 1 Tryz.underlying23 HI.out HZ0.out HZ1.out .i64 .i64 k k k rfl rfl rfl rfl HB2.out HB3.out hsz0 ?_;intro w1 hown hgr)
 have hb1:=qaL hgr
 have hr1:=Row.of_make hown
 have HS0:Hid (RelOf w [.int .i64 (p:Int),.int .i64 (m:Int),.slice A n c,.int .i64 (cols:Int),.slice Ah k ch] W0.heap.size k q (.int .i64 ((0:Nat):Int)) w1):=⟨0,List.replicate k 0,Nat.zero_le _,rfl,HX.out.grow hb1,hr1,by simp,fun x hx=>by rw [List.mem_replicate] at hx;omega⟩
 clear hown hgr hb1 hr1 HX HI HZ0 HZ1 HB2 HB3 c4
 have HGG:Hid (w.heap.size<W0.heap.size):=hsz0
 clear hsz0
 generalize W0.heap.size=go at *
 clear W0
 go_wp2_with fail
 go_loopw [6] (fun v6 wr=>RelOf w [.int .i64 (p:Int),.int .i64 (m:Int),.slice A n c,.int .i64 (cols:Int),.slice Ah k ch] go k q v6 wr) (fun v6 _=>k-(intOf v6).toNat)
 case atStart=>exact HS0.out
 case round =>
  obtain ⟨i,l,hik,rfl,hx,hrow,hll,hlq⟩:=hrel
  have HX:=Lib.hid hx
  have HR:=Lib.hid hrow
  have HLQ:=Lib.hid hlq
  clear hx hrow hlq HS0
  by_cases hlt:i<k
  . have k0 : (0 : Int) <= (i : Int) := by omega
    have k1:(i:Int)<(k:Int):=by omega
    by_cases hlz:i<zs.length
    . have k2 : (i : Int) < (zs.length : Int) := by omega
      have hw1:IntKind.i64.wrap ((i:Int)+1)=(i:Int)+1:=IntWalk.i64_in _ (by omega)
      obtain ⟨bz,oz,rfl,hbz,hcz⟩:=(HZ.out.keep HX.out.below).at_ (k:=i) hlz
      generalize zs.getD i 0=x at *
      obtain ⟨y,hy,hyq⟩:=HIN.out x
      have HIC:Hid (∀ W:World,Calls Tryz.prog 22 #[.agg #[.int .i64 p,.int .i64 m,.slice A n c],.int .i64 x] W fun e w'=>e=.returned (.int .i64 (y:Int))/\Below W.heap.size W w'):=fun W=>by rw [<- hy];exact HRI.out x W
      clear hy HRI HIN HC
      generalize zs.length=nzl at *
      have HS:Hid (OSc w [.int .i64 (p:Int),.int .i64 (m:Int),.slice A n c,.int .i64 (cols:Int),.slice Ah k ch] bz oz i x wr.drew):=⟨HX.out.grow (Below.refl _ _).drew,hcz⟩
      have HR2:=Lib.hid (HR.out.below (Below.refl _ wr).drew HR.out.lt.2)
      go_upto_region 5 with fail
      refine qaX 9 9 (OSc w [.int .i64 (p:Int),.int .i64 (m:Int),.slice A n c,.int .i64 (cols:Int),.slice Ah k ch] bz oz i x) [(1,0),(1,1),(1,2),(0,3),(1,4),(1,5),(1,6),(0,7),(2,8)] default (by kernel_rfl) (by kernel_rfl) (fun _ _ d _ _ h=>by cases d <;> exact h) HS.out ?_
      generalize wr.drew=Wd at *
      simp only [List.map_cons,List.map_nil,List.getD_cons_zero,List.getD_cons_succ]
      iterate 3
       apply qaR rfl
       . intro W
         go_simp
         rfl
       go_simp
      refine qbV rfl 29 (.tmp 25) rfl w.heap.size 0 rfl [.int .i64 (p:Int),.int .i64 (m:Int),.slice A n c] _ (fun W hW=>hW.1.field) Tryz.underlying29 rfl fieldSize ?_
      go_simp
      iterate 3
       apply qaR rfl
       . intro W
         go_simp
         rfl
       go_simp
      apply qaZ rfl
      . intro W hW
        have z0:=hW.2
        go_simp
        rfl
      go_simp
      apply qcF rfl
      . go_simp
        exact ⟨rfl,rfl⟩
      with_reducible refine (HIC.out Wd).mono ?_
      rintro e w2 ⟨rfl,hb2⟩
      have HX2:=Lib.hid (HS.out.1.grow hb2)
      have HR3:=Lib.hid (HR2.out.below hb2 HR2.out.lt.2)
      have hc2:w2.cell? ⟨bz,oz+i,none⟩=some (.int .i64 x):=(hb2.cell (p:=⟨bz,oz+i,none⟩) (World.block_lt_of_cell? Wd _ HS.out.2)).trans HS.out.2
      refine ⟨_,rfl,⟨HX2.out,hc2⟩,?_⟩
      go_simp
      refine qbZ ?_
      show wpList _ _ _ _ _ _
      go_simp
      have f0:=HR3.out.frozen i
      have c0:=HR3.out.cell (j:=i) (by rw [qaB];omega)
      have HR4:=Lib.hid (HR3.out.set i (y:Int))
      rw [qbX] at HR4
      have HX4:=Lib.hid (HX2.out.wrote (k:=i) HGG.out (.int .i64 (y:Int)))
      have HQ4:Hid (∀ z∈l.set i y,z<q):=fun z hz=>(List.mem_or_eq_of_mem_set hz).elim (HLQ.out z) (fun h=>h ▸ hyq)
      clear hb2 hc2 HS HR2 HIC HR HX
      go_wp2_with fail
      go_roundw
      case rel=>exact ⟨i+1,l.set i y,by omega,by go_num,HX4.out,HR4.out,by rw [List.length_set];exact hll,HQ4.out⟩
      case measure=>simp [intOf];omega
    . have k2 : ¬ (i : Int) < (zs.length : Int) := by omega
      have HRG:=Lib.hid HX.out.field
      have c3:wr.cell? ⟨w.heap.size,3,none⟩=some (.int .i64 (cols:Int)):=HX.out.cell rfl
      have c4:wr.cell? ⟨w.heap.size,4,none⟩=some (.slice Ah k ch):=HX.out.cell rfl
      have HCC:=Lib.hid (HC.out l go wr HX.out.below HR.out HLQ.out hll)
      have HRN:=Lib.hid (HR.out.lt)
      clear HC HR HIN HRI HZ
      go_wp2_with (refine wpList_load_mid rfl 29 (.tmp 33) rfl w.heap.size 0 rfl [.int .i64 (p:Int),.int .i64 (m:Int),.slice A n c] _ HRG.out Tryz.underlying29 rfl fieldSize ?_)
      refine HCC.out.mono ?_
      rintro e w3 ⟨⟨g3,rfl,hr3,hl3,_⟩,hb3⟩
      have HB3:=Lib.hid (HX.out.below.trans (hb3.mono HX.out.below.size))
      have HRR:=Lib.hid (hr3.base (Nat.le_trans HX.out.below.size hr3.lt.1))
      have HL3:=Lib.hid hl3
      clear hb3 hr3 hl3 HCC
      go_wp2_with fail
      go_ret
      exact ⟨⟨g3,l,rfl,hll,HLQ.out,HRR.out,HL3.out⟩,HB3.out⟩
  . have k1 : ¬ (i : Int) < (k : Int) := by omega
    have HRG:=Lib.hid HX.out.field
    have c3:wr.cell? ⟨w.heap.size,3,none⟩=some (.int .i64 (cols:Int)):=HX.out.cell rfl
    have c4:wr.cell? ⟨w.heap.size,4,none⟩=some (.slice Ah k ch):=HX.out.cell rfl
    have HCC:=Lib.hid (HC.out l go wr HX.out.below HR.out HLQ.out hll)
    have HRN:=Lib.hid (HR.out.lt)
    clear HC HR HIN HRI HZ
    go_wp2_with (refine wpList_load_mid rfl 29 (.tmp 33) rfl w.heap.size 0 rfl [.int .i64 (p:Int),.int .i64 (m:Int),.slice A n c] _ HRG.out Tryz.underlying29 rfl fieldSize ?_)
    refine HCC.out.mono ?_
    rintro e w3 ⟨⟨g3,rfl,hr3,hl3,_⟩,hb3⟩
    have HB3:=Lib.hid (HX.out.below.trans (hb3.mono HX.out.below.size))
    have HRR:=Lib.hid (hr3.base (Nat.le_trans HX.out.below.size hr3.lt.1))
    have HL3:=Lib.hid hl3
    clear hb3 hr3 hl3 HCC
    go_wp2_with fail
    go_ret
    exact ⟨⟨g3,l,rfl,hll,HLQ.out,HRR.out,HL3.out⟩,HB3.out⟩
end Go.Proofs.YtlmglaonldlanaaGreat
namespace Go.Proofs.YtlmglaonldlanaaGreat
open Go.RowKit Pln
end Go.Proofs.YtlmglaonldlanaaGreat
namespace Go.Proofs.YtlmglaonldlanaaGreat
open Go.RowKit Pln
theorem SB.code {w:World} {b:Nat} {d:StD} {Am Ag Af Aa Ab Ap Aq Ar As At:Option Addr} {cm cg cf ca cb cp cq cr cs' ct:Nat} {W:World} (h:SB w b (stCells d Am Ag Af Aa Ab Ap Aq Ar As At cm cg cf ca cb cp cq cr cs' ct) W):W.rangeAt b 1 [.int .i64 d.p,.int .i64 d.m,.slice Am d.mod.length cm,.int .i64 d.n,.slice Ag d.gen.length cg] :=
 h.sub 1 _ (fun j hj=>by rcases j with _ | _ | _ | _ | _ | j <;> first | rfl | (simp at hj;omega))
theorem code_form {d:StD} (hz0:codeZ d.p d.m d.mod d.n d.gen=0):fieldOK d.p d.m d.mod=true/\1<=d.n/\d.n<=64/\nzs (natR d.gen)=d.gen/\Grid (d.p.toNat ^ d.m.toNat) (natR d.gen).length d.n.toNat (natR d.gen)/\d.gen.length<=256:=by
 obtain ⟨h1,h2,h3⟩:=codeZ_n hz0
 have hn:1<=d.n/\d.n<=64:=by
  unfold lengthZ at h2
  split at h2
  . cases h2
  . omega
 have hc:errC d.p d.m d.mod d.n d.gen=0:=by
  unfold spZ at h3
  split at h3
  . rename_i he
    exact absurd h3 he
  . rename_i he
    exact Classical.byContradiction he
 unfold errC at hc
 rw [if_pos h1] at hc
 obtain ⟨g1,g2,g3,g4,g5⟩:=qcT hc
 exact ⟨h1,hn.1,hn.2,g1,g2,g5⟩
theorem code_nat {d:StD} {w:World} {Am A:Option Addr} (hz:codeZ d.p d.m d.mod d.n d.gen=0) (hM:IntsAt w w.heap.size Am d.mod) (hA:RowsAt w w.heap.size A d.gen) :
 RCode d.p.toNat d.m.toNat (mdOf d.m d.mod) Am d.mod.length d.n.toNat (natR d.gen) A w/\((d.p.toNat:Nat):Int)=d.p/\((d.m.toNat:Nat):Int)=d.m/\((d.n.toNat:Nat):Int)=d.n/\(natR d.gen).length=d.gen.length:=by
 obtain ⟨hok,n1,n2,hnn,hgr,hlen⟩:=code_form hz
 have hsh:shapeM d.p d.m d.mod=true:=by unfold fieldOK at hok;rw [Bool.and_eq_true] at hok;exact hok.1
 have hs:=qbJ hsh
 have hft:=qaW hok
 have hmdl:(mdOf d.m d.mod).length=d.m.toNat:=by
  by_cases hm:d.m=1
  . rw [hm];simp [mdOf]
  . unfold mdOf;rw [if_neg hm,List.length_map];exact hs.len hm
 have HRF:RFld d.p.toNat d.m.toNat (mdOf d.m d.mod) Am d.mod.length w.heap.size w:=⟨hs.small,hmdl,hs.lt,fun h2=>by
  have hm:d.m≠1:=by intro e;rw [e] at h2;exact absurd h2 (by decide)
  exact ⟨hs.len hm,by rw [hs.nat hm];exact hM⟩⟩
 exact ⟨⟨HRF,⟨_,hft⟩,by rw [hnn];exact hA,hgr,by omega,by omega,by rw [qeE];exact hlen⟩,hs.p0,hs.m0,by omega,qeE _⟩
section
variable {P:Program} {ops:Array Oper} {S:World->Prop}
end
end Go.Proofs.YtlmglaonldlanaaGreat
