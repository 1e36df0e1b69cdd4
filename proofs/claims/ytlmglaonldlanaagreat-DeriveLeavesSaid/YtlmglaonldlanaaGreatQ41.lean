/-
 code.own, code.of, code.New at a modulus of any length. Printed by mkua.py. code.Dual at any code. Printed by mkub.py. Plain: fields as types, powers, sums; the bound of Hartmann and Tzeng; polynomials have few roots.
-/
import Derived.Test.YtlmglaonldlanaaGreatQ40
import Derived.Test.YtlmglaonldlanaaGreatQ30
import Derived.Test.YtlmglaonldlanaaGreatQ32
import Derived.Test.YtlmglaonldlanaaGreatQ34
namespace Go.Proofs.YtlmglaonldlanaaGreat
open Go.RowKit Pln
set_option maxHeartbeats 2000000 in
set_option maxRecDepth 100000 in
theorem clone_any (zs:List Int) (A:Option Addr) (c:Nat) (w:World) (hA:IntsAt w w.heap.size A zs) (hl:zs.length<=1000000) :
 Calls Tryz.prog 74 #[.slice A zs.length c] w fun e w'=>(∃ (A':Option Addr) (c':Nat),e=.returned (.slice A' zs.length c')/\IntsUp w' w.heap.size A' zs)/\Below w.heap.size w w':=by
 rcases Nat.eq_zero_or_pos zs.length with h0 | h0
 . have hzs : zs = [] := List.length_eq_zero_iff.1 h0
   subst hzs
   have hup:∀ (W:World) (A':Option Addr),IntsUp W w.heap.size A' []:=fun W A' h=>absurd h (by simp)
   clear hA hl h0
   cases A with
   | none =>
     have hen:∀ (W:World),(binOp .eql 23 (.slice none 0 c) (.slice none 0 0)).run Tryz.prog W=.ok (.bool true) W:=fun W=>Lib.run_eql_slice_nil W 23 3 none 0 c 0 0 Tryz.underlying23
     go_enter Tryz.func74,Tryz.ntmps74
     go_wp2_with fail
     go_ret
     exact ⟨⟨none,0,rfl,hup _ _⟩,Below.refl _ _⟩
   | some ad =>
     have hen:∀ (W:World),(binOp .eql 23 (.slice (some ad) 0 c) (.slice none 0 0)).run Tryz.prog W=.ok (.bool false) W:=fun W=>Lib.run_eql_slice_nil W 23 3 (some ad) 0 c 0 0 Tryz.underlying23
     have HB:Hid (Below w.heap.size w (w.alloc (.cells #[] 3))):=(Below.refl _ _).alloc (Nat.le_refl _) _
     obtain ⟨A',c',w',hrun,_,hb⟩:=qeD 23 w.heap.size (some ad) c [] (w.alloc (.cells #[] 3)) (fun h=>absurd h (by simp)) (by simp)
     have HRUN:=Lib.hid hrun
     have HB2:=Lib.hid (HB.out.trans (hb.mono HB.out.size))
     clear hrun hb
     go_enter Tryz.func74,Tryz.ntmps74
     go_wp2_with (at_builtin;refine qeH rfl (.tmp 5) (.tmp 6) 23 rfl rfl rfl HRUN.out ?_)
     go_ret
     exact ⟨⟨A',c',rfl,hup _ _⟩,HB2.out⟩
 . exact (sclone_c zs A c w hA h0 hl).mono fun e w' ⟨⟨g,c',h1,h2⟩,h3⟩=>⟨⟨_,c',h1,fun hz=>⟨g,0,rfl,h2.lt.1,h2.lt.2,fun j hj=>by rw [Nat.zero_add];exact h2.cell hj⟩⟩,h3⟩
set_option maxHeartbeats 2000000 in
set_option maxRecDepth 100000 in
theorem own_any (p m:Int) (mod:List Int) (Am:Option Addr) (cm:Nat) (w:World) (hM:IntsAt w w.heap.size Am mod) (hl:mod.length<=1000000) :
 Calls Tryz.prog 201 #[.agg #[.int .i64 p,.int .i64 m,.slice Am mod.length cm]] w fun e w'=>(∃ (A':Option Addr) (c':Nat),e=.returned (.agg #[.int .i64 p,.int .i64 m,.slice A' mod.length c'])/\IntsUp w' w.heap.size A' mod)/\Below w.heap.size w w':=by
 have HB0:Hid (Below w.heap.size w ((w.alloc (.cells #[.int .i64 p,.int .i64 m,.slice Am mod.length cm] 29)).alloc (.cells #[.int .i64 0,.int .i64 0,.slice none 0 0] 29))):=((Below.refl _ _).alloc (Nat.le_refl _) _).alloc (by simp) _
 have HS0:Hid (w.heap.size+1<((w.alloc (.cells #[.int .i64 p,.int .i64 m,.slice Am mod.length cm] 29)).alloc (.cells #[.int .i64 0,.int .i64 0,.slice none 0 0] 29)).heap.size):=by show _ < _;simp
 have HK0:Hid (((w.alloc (.cells #[.int .i64 p,.int .i64 m,.slice Am mod.length cm] 29)).alloc (.cells #[.int .i64 0,.int .i64 0,.slice none 0 0] 29)).heap[w.heap.size]?=some (.cells [.int .i64 p,.int .i64 m,.slice Am mod.length cm].toArray 29 (0,0))):=(heap_alloc_old _ _ (by simp)).trans (heap_alloc_new _ _)
 have HK1:Hid (((w.alloc (.cells #[.int .i64 p,.int .i64 m,.slice Am mod.length cm] 29)).alloc (.cells #[.int .i64 0,.int .i64 0,.slice none 0 0] 29)).heap[w.heap.size+1]?=some (.cells #[.int .i64 0,.int .i64 0,.slice none 0 0] 29 (0,0))):=qbM (by simp) _
 have HM:=Lib.hid hM
 clear hM
 go_enter Tryz.func201,Tryz.ntmps201
 go_wp2_with fail
 generalize (w.alloc (.cells #[.int .i64 p,.int .i64 m,.slice Am mod.length cm] 29)).alloc (.cells #[.int .i64 0,.int .i64 0,.slice none 0 0] 29)=W0 at *
 have HC:=Lib.hid (clone_any mod Am cm W0 ((HM.out.keep HB0.out).more HB0.out.size) hl)
 (with_reducible refine HC.out.mono ?_)
 rintro e w1 ⟨⟨A',c',rfl,hup⟩,hb1⟩
 have HB1:=Lib.hid (HB0.out.trans (hb1.mono HB0.out.size))
 have k0:=(hb1.block w.heap.size (by have:=HS0.out;omega)).trans HK0.out
 have k1:=(hb1.block (w.heap.size+1) HS0.out).trans HK1.out
 have y2:w1.cell? ⟨w.heap.size,2,none⟩=some (.slice Am mod.length cm):=cell_of_row _ _ 2 _ _ _ k0
 have f2:w1.frozen? ⟨w.heap.size,2,none⟩=false:=by simp [World.frozen?,k0]
 have K0:=Lib.hid (qaT k0 2 (.slice A' mod.length c'))
 have K1:=Lib.hid ((Below.heap_setCell w1 ⟨w.heap.size,2,none⟩ (.slice A' mod.length c') (w.heap.size+1) (by show w.heap.size+1≠w.heap.size;omega)).trans k1)
 have HB2:=Lib.hid (HB1.out.setCell (p:=⟨w.heap.size,2,none⟩) (Nat.le_refl _) (.slice A' mod.length c'))
 have hs0:=HS0.out
 have HU:Hid (IntsUp (w1.setCell ⟨w.heap.size,2,none⟩ (.slice A' mod.length c')) W0.heap.size A' mod):=hup.of_blocks (by simp) fun k hk _=>Below.heap_setCell w1 ⟨w.heap.size,2,none⟩ _ k (by show k≠w.heap.size;omega)
 clear hup hb1 k0 k1 HC HM
 go_upto_region 2 with fail
 generalize w1.setCell ⟨w.heap.size,2,none⟩ (.slice A' mod.length c')=w2 at *
 clear y2 f2
 have HRG:Hid (w2.rangeAt w.heap.size 0 [.int .i64 p,.int .i64 m,.slice A' mod.length c']):=qaC K0.out
 have HK2:Hid ((w2.setRow (w.heap.size+1) #[.int .i64 p,.int .i64 m,.slice A' mod.length c']).heap[w.heap.size+1]?=some (.cells #[.int .i64 p,.int .i64 m,.slice A' mod.length c'] 29 (0,0))):=qbI _ _ _ _ _ K1.out
 go_wp2_with (first | (refine wpList_load_mid rfl 29 (.tmp 1) rfl w.heap.size 0 rfl [.int .i64 p,.int .i64 m,.slice A' mod.length c'] _ HRG.out Tryz.underlying29 rfl fieldSize ?_) | (refine qaE rfl 29 (.tmp 2) (.tmp 7) rfl w2 (w.heap.size+1) 29 #[.int .i64 0,.int .i64 0,.slice none 0 0] #[.int .i64 p,.int .i64 m,.slice A' mod.length c'] rfl rfl K1.out fieldSize rfl (by simp [Value.oneCell']) ?_))
 refine bodyPost_ret (results_cell_row (P:=Tryz.prog) rfl _ _ (w.heap.size+1) 29 #[.int .i64 p,.int .i64 m,.slice A' mod.length c'] (0,0) _ rfl HK2.out Tryz.underlying29 rfl fieldSize) rfl ?_
 refine ⟨⟨A',c',rfl,?_⟩,qbD HB2.out (by omega) _⟩
 exact (HU.out.of_blocks (by simp) fun k hk _=>setRow_other w2 (w.heap.size+1) k _ (by omega)).lower (by have:=HB0.out.size;omega)
def OfPostA (w:World) (p m:Int) (mod:List Int) (cols:Int) (A:Option Addr) (n c:Nat) (e:Ending) (w':World):Prop :=
 (∃ (A':Option Addr) (c':Nat),e=.returned (.tuple #[.agg #[.int .i64 p,.int .i64 m,.slice A' mod.length c',.int .i64 cols,.slice A n c],.int .i64 0])/\IntsUp w' w.heap.size A' mod)/\Below w.heap.size w w'
def NewPostA (w:World) (p m:Int) (mod:List Int) (cols:Int) (rows:List (List Nat)) (e:Ending) (w':World):Prop :=
 (∃ (A':Option Addr) (c':Nat) (R:Option Addr) (k:Nat),e=.returned (.tuple #[.agg #[.int .i64 p,.int .i64 m,.slice A' mod.length c',.int .i64 cols,.slice R rows.length k],.int .i64 0])/\IntsUp w' (w.heap.size+1+1+1) A' mod/\RowsUp w' (w.heap.size+1+1+1) R (nzs rows))/\Below w.heap.size w w'
set_option maxHeartbeats 2000000 in
set_option maxRecDepth 100000 in
theorem of_any (p m:Int) (mod:List Int) (Am:Option Addr) (cm:Nat) (cols:Int) (A:Option Addr) (n c:Nat) (w:World) (hM:IntsAt w w.heap.size Am mod) (hl:mod.length<=1000000) :
 Calls Tryz.prog 157 #[.agg #[.int .i64 p,.int .i64 m,.slice Am mod.length cm],.agg #[.int .i64 cols,.slice A n c],.int .i64 0] w (OfPostA w p m mod cols A n c):=by
 have HX:Hid (BoxC w [.int .i64 p,.int .i64 m,.slice Am mod.length cm] [.int .i64 cols,.slice A n c] [.int .i64 0,.int .i64 0,.slice none 0 0,.int .i64 0,.slice none 0 0] (((w.alloc (.cells #[.int .i64 p,.int .i64 m,.slice Am mod.length cm] 29)).alloc (.cells #[.int .i64 cols,.slice A n c] 54)).alloc (.cells #[.int .i64 0,.int .i64 0,.slice none 0 0,.int .i64 0,.slice none 0 0] 32))):=boxC w _ _ _
 have HM:=Lib.hid hM
 clear hM
 go_enter Tryz.func157,Tryz.ntmps157
 go_upto_region 3 with fail
 generalize ((w.alloc (.cells #[.int .i64 p,.int .i64 m,.slice Am mod.length cm] 29)).alloc (.cells #[.int .i64 cols,.slice A n c] 54)).alloc (.cells #[.int .i64 0,.int .i64 0,.slice none 0 0,.int .i64 0,.slice none 0 0] 32)=W0 at *
 have HRNG:Hid (∀ W,LSt W0 W->W.rangeAt w.heap.size 0 [.int .i64 p,.int .i64 m,.slice Am mod.length cm]):=fun W hW=>qaC (HX.out.keep hW).k0
 have HCV:Hid (∀ W,LSt W0 W->W.cell? ⟨w.heap.size+1,0,none⟩=some (.int .i64 cols)/\W.cell? ⟨w.heap.size+1,1,none⟩=some (.slice A n c)):=fun W hW=>⟨cell_of_row _ _ 0 _ _ _ (HX.out.keep hW).k1,cell_of_row _ _ 1 _ _ _ (HX.out.keep hW).k1⟩
 have HS0:Hid (LSt W0 W0.drew):=(Below.refl _ _).drew
 have HC:Hid (Calls Tryz.prog 201 #[.agg #[.int .i64 p,.int .i64 m,.slice Am mod.length cm]] W0.drew fun e w'=>(∃ (A':Option Addr) (c':Nat),e=.returned (.agg #[.int .i64 p,.int .i64 m,.slice A' mod.length c'])/\IntsUp w' W0.heap.size A' mod)/\Below W0.heap.size W0 w') :=
  (own_any p m mod Am cm W0.drew (((HM.out.keep HX.out.below).keep (HS0.out.mono HX.out.below.size)).more HX.out.below.size) hl).mono fun e w' ⟨h1,h2⟩=>⟨h1,HS0.out.trans h2⟩
 refine qbL 7 (LSt W0) [(true,0),(true,2),(true,3),(true,4),(true,5),(false,1),(true,6)] default (by kernel_rfl) (by kernel_rfl) (fun _ _ d _ _ h=>by cases d <;> exact h) HS0.out ?_
 simp only [List.map_cons,List.map_nil,List.getD_cons_zero,List.getD_cons_succ]
 refine qdN rfl 29 (.tmp 3) rfl w.heap.size 0 rfl [.int .i64 p,.int .i64 m,.slice Am mod.length cm] _ HRNG.out Tryz.underlying29 rfl fieldSize ?_
 go_simp
 iterate 4
  apply qdA rfl
  . intro W hW
    obtain ⟨z0,z1⟩:=HCV.out W hW
    go_simp
    rfl
  go_simp
 apply qdB rfl
 . go_simp
   exact ⟨rfl,rfl⟩
 with_reducible refine HC.out.mono ?_
 rintro e w1 ⟨⟨A',c',rfl,hu⟩,hb1⟩
 refine ⟨_,rfl,hb1,?_⟩
 go_simp
 apply qdA rfl
 . intro W hW
   go_simp
   rfl
 go_simp
 refine qeU ?_
 have HX1:=Lib.hid (HX.out.keep hb1)
 have HK2:=Lib.hid HX1.out.k2
 have HY:=Lib.hid (HX1.out.set [.int .i64 p,.int .i64 m,.slice A' mod.length c',.int .i64 cols,.slice A n c])
 have HU:=Lib.hid hu
 have hs:=HX.out.size
 clear hu hb1
 go_wp2_with (refine qaE rfl 32 (.tmp 6) (.tmp 18) rfl w1 (w.heap.size+1+1) 32 #[.int .i64 0,.int .i64 0,.slice none 0 0,.int .i64 0,.slice none 0 0] #[.int .i64 p,.int .i64 m,.slice A' mod.length c',.int .i64 cols,.slice A n c] rfl rfl HK2.out codeSize rfl (by simp [Value.oneCell']) ?_)
 refine bodyPost_ret (qaP (P:=Tryz.prog) rfl _ _ (w.heap.size+1+1) 32 #[.int .i64 p,.int .i64 m,.slice A' mod.length c',.int .i64 cols,.slice A n c] (0,0) _ _ rfl rfl HY.out.k2 Tryz.underlying32 rfl codeSize) rfl ?_
 refine ⟨⟨A',c',rfl,?_⟩,HY.out.below⟩
 exact (HU.out.of_blocks (by simp) fun k hk _=>setRow_other w1 (w.heap.size+1+1) k _ (by omega)).lower (by omega)
set_option maxHeartbeats 2000000 in
set_option maxRecDepth 100000 in
theorem new_any (p m:Int) (mod:List Int) (Am:Option Addr) (cm:Nat) (cols:Nat) (rows:List (List Nat)) (A:Option Addr) (c:Nat) (w:World) (hM:IntsAt w w.heap.size Am mod) (hl:mod.length<=1000000)
 (hA:RowsAt w w.heap.size A (nzs rows)) (h1:1<=cols) (herr:errC p m mod cols (nzs rows)=0) (hN:lengthZ cols=0) :
 Calls Tryz.prog 113 #[.agg #[.int .i64 p,.int .i64 m,.slice Am mod.length cm],.agg #[.int .i64 (cols:Int),.slice A rows.length c]] w (NewPostA w p m mod cols (canonM (opsT p.toNat m.toNat (lOf p m mod)) rows cols)):=by
 have HX:Hid (BoxC w [.int .i64 p,.int .i64 m,.slice Am mod.length cm] [.int .i64 (cols:Int),.slice A rows.length c] [.int .i64 0,.int .i64 0,.slice none 0 0,.int .i64 0,.slice none 0 0] (((w.alloc (.cells #[.int .i64 p,.int .i64 m,.slice Am mod.length cm] 29)).alloc (.cells #[.int .i64 (cols:Int),.slice A rows.length c] 54)).alloc (.cells #[.int .i64 0,.int .i64 0,.slice none 0 0,.int .i64 0,.slice none 0 0] 32))):=boxC w _ _ _
 have HM:=Lib.hid hM
 have HA:=Lib.hid hA
 have HN:=Lib.hid hN
 clear hM hA hN
 go_enter Tryz.func113,Tryz.ntmps113
 go_wp2_with fail
 generalize ((w.alloc (.cells #[.int .i64 p,.int .i64 m,.slice Am mod.length cm] 29)).alloc (.cells #[.int .i64 (cols:Int),.slice A rows.length c] 54)).alloc (.cells #[.int .i64 0,.int .i64 0,.slice none 0 0,.int .i64 0,.slice none 0 0] 32)=W0 at *
 have HC:=Lib.hid (canonical2_c p m mod Am cm cols rows A c W0 ((HM.out.keep HX.out.below).more HX.out.below.size) (by omega) ((HA.out.keep HX.out.below).more HX.out.below.size) h1 herr)
 (with_reducible refine HC.out.mono ?_)
 rintro e w1 ⟨⟨R,VA,ck,rfl,hra,hpvx⟩,hb1⟩
 clear hpvx
 have hs0:=HX.out.size
 have HX1:=Lib.hid (HX.out.keep hb1)
 have HM1:=Lib.hid ((HM.out.keep HX1.out.below).more HX1.out.below.size)
 clear HX HM HA HC hb1
 generalize canonM (opsT p.toNat m.toNat (lOf p m mod)) rows cols=out at *
 have HRA:=Lib.hid (hra.lower (lo':=w.heap.size+1+1+1) (by omega))
 have hs1:w.heap.size<w1.heap.size:=by have:=HX1.out.size;omega
 have hs2:w.heap.size+1<w1.heap.size:=by have:=HX1.out.size;omega
 have HBA:Hid (Below w1.heap.size w1 (w1.alloc (.cells #[.int .i64 (cols:Int),.slice (some ⟨R,0,none⟩) out.length out.length] 54))):=(Below.refl _ _).alloc (Nat.le_refl _) _
 have HX2:=Lib.hid (HX1.out.keep HBA.out)
 have HM2:=Lib.hid ((HM1.out.keep HBA.out).more HBA.out.size)
 have HR2:=Lib.hid (HRA.out.grow HBA.out)
 have HBX:Hid ((w1.alloc (.cells #[.int .i64 (cols:Int),.slice (some ⟨R,0,none⟩) out.length out.length] 54)).heap[w1.heap.size]?=some (.cells [.int .i64 (cols:Int),.slice (some ⟨R,0,none⟩) out.length out.length].toArray 54 (0,0))):=heap_alloc_new _ _
 have HBS:Hid (w1.heap.size<(w1.alloc (.cells #[.int .i64 (cols:Int),.slice (some ⟨R,0,none⟩) out.length out.length] 54)).heap.size):=by show _ < _;simp
 clear hra HRA HM1 hs0
 clear W0
 go_upto_region 3 with (refine qaI rfl 54 (.tmp 6) (.tmp 13) rfl w1 _ #[.int .i64 (cols:Int),.slice (some ⟨R,0,none⟩) out.length out.length] rfl rfl matSize rfl (by simp [Value.oneCell']) ?_)
 generalize w1.alloc (.cells #[.int .i64 (cols:Int),.slice (some ⟨R,0,none⟩) out.length out.length] 54)=w2 at *
 have a0:w2.cell? ⟨w.heap.size+1,0,none⟩=some (.int .i64 (cols:Int)):=cell_of_row _ _ 0 _ _ _ HX2.out.k1
 have HLN:=Lib.hid (length_c cols w2)
 rw [HN.out] at HLN
 go_wp2_with fail
 (with_reducible refine HLN.out.mono ?_)
 rintro e w3 ⟨rfl,rfl⟩
 have HRF:Hid (w2.rangeAt w.heap.size 0 [.int .i64 p,.int .i64 m,.slice Am mod.length cm]):=qaC HX2.out.k0
 have HRM:Hid (w2.rangeAt w1.heap.size 0 [.int .i64 (cols:Int),.slice (some ⟨R,0,none⟩) out.length out.length]):=qaC HBX.out
 have HOF:=Lib.hid (of_any p m mod Am cm cols (some ⟨R,0,none⟩) out.length out.length w2 HM2.out hl)
 clear a0
 go_wp2_with (first | (refine wpList_load_mid rfl 29 (.tmp 2) rfl w.heap.size 0 rfl [.int .i64 p,.int .i64 m,.slice Am mod.length cm] _ HRF.out Tryz.underlying29 rfl fieldSize ?_) | (refine wpList_load_mid rfl 54 (.tmp 6) rfl w1.heap.size 0 rfl [.int .i64 (cols:Int),.slice (some ⟨R,0,none⟩) out.length out.length] _ HRM.out Tryz.underlying54 rfl matSize ?_))
 (with_reducible refine HOF.out.mono ?_)
 rintro e w4 ⟨⟨A',c',rfl,hu⟩,hb4⟩
 have HX4:=Lib.hid (HX2.out.keep hb4)
 have HK2:=Lib.hid HX4.out.k2
 have HY:=Lib.hid (HX4.out.set [.int .i64 p,.int .i64 m,.slice A' mod.length c',.int .i64 (cols:Int),.slice (some ⟨R,0,none⟩) out.length out.length])
 have HU:=Lib.hid hu
 have HR4:=Lib.hid (HR2.out.grow hb4)
 have hsz:=HX2.out.size
 have hb4s:=hb4.size
 clear hu hb4
 go_wp2_with (refine qaE rfl 32 (.tmp 4) (.tmp 25) rfl w4 (w.heap.size+1+1) 32 #[.int .i64 0,.int .i64 0,.slice none 0 0,.int .i64 0,.slice none 0 0] #[.int .i64 p,.int .i64 m,.slice A' mod.length c',.int .i64 (cols:Int),.slice (some ⟨R,0,none⟩) out.length out.length] rfl rfl HK2.out codeSize rfl (by simp [Value.oneCell']) ?_)
 refine bodyPost_ret (qaP (P:=Tryz.prog) rfl _ _ (w.heap.size+1+1) 32 #[.int .i64 p,.int .i64 m,.slice A' mod.length c',.int .i64 (cols:Int),.slice (some ⟨R,0,none⟩) out.length out.length] (0,0) _ _ rfl rfl HY.out.k2 Tryz.underlying32 rfl codeSize) rfl ?_
 refine ⟨⟨A',c',_,_,rfl,?_,?_⟩,HY.out.below⟩
 . have h1 : IntsUp (w4.setRow (w.heap.size + 1 + 1) #[.int .i64 p,.int .i64 m,.slice A' mod.length c',.int .i64 (cols : Int),.slice (some ⟨R,0,none⟩) out.length out.length]) w2.heap.size A' mod := HU.out.of_blocks (by simp) fun k hk _ => setRow_other w4 (w.heap.size + 1 + 1) k _ (by omega)
   exact h1.lower (by omega)
 . exact HR4.out.setRow (show w.heap.size+1+1<w.heap.size+1+1+1 by omega) _
end Go.Proofs.YtlmglaonldlanaaGreat
namespace Go.Proofs.YtlmglaonldlanaaGreat
open Go.RowKit Pln
def LSkA (a w:World):Prop:=Below a.heap.size a w
def RelDuA (n:Nat) (K:List (List Nat)) (w1:World) (v5 v6:Value) (wx:World):Prop :=
 ∃ (b:Nat) (A':Option Addr) (c':Nat),v5=.pointer (some ⟨b,0,none⟩)/\v6=.int .i64 0/\wx.heap[b]?=some (.cells [.int .i64 (n:Int),.slice A' K.length c'].toArray 54 (0,0))/\RowsUp wx w1.heap.size A' (nzs K)/\Below w1.heap.size w1 wx
def DuaPost (p m:Int) (mod:List Int) (n:Nat) (K:List (List Nat)) (w:World) (e:Ending) (w':World):Prop :=
 (∃ (A2:Option Addr) (c2:Nat) (A':Option Addr) (c':Nat),e=.returned (.tuple #[.agg #[.int .i64 p,.int .i64 m,.slice A2 mod.length c2,.int .i64 (n:Int),.slice A' K.length c'],.int .i64 0])/\RowsUp w' w.heap.size A' (nzs K))/\Below w.heap.size w w'
set_option maxHeartbeats 4000000 in
set_option maxRecDepth 100000 in
theorem dual_any (p m:Int) (mod:List Int) (Am:Option Addr) (cm n:Nat) (rows:List (List Nat)) (A:Option Addr) (c:Nat) (K:List (List Nat)) (w:World) (hM:IntsAt w w.heap.size Am mod) (hl:mod.length<=1000000) (hG:RowsAt w w.heap.size A (nzs rows)) (hrl:rows.length<=1000000) (hz:codeZ p m mod (n:Int) (nzs rows)=0) (hn1:1<=n) (herr:errC p m mod (n:Int) (nzs rows)=0) (hK:kerM (opsT p.toNat m.toNat (lOf p m mod)) rows n=K) :
 Calls Tryz.prog 98 #[.agg #[.int .i64 p,.int .i64 m,.slice Am mod.length cm,.int .i64 (n:Int),.slice A rows.length c]] w (DuaPost p m mod n K w):=by
 have HX:=Lib.hid (b2_new w [.int .i64 p,.int .i64 m,.slice Am mod.length cm,.int .i64 (n:Int),.slice A rows.length c] 32 [.int .i64 0,.int .i64 0,.slice none 0 0,.int .i64 0,.slice none 0 0] 32)
 have HG:=Lib.hid hG
 have HM:=Lib.hid hM
 have HZ:=Lib.hid hz
 have HE:=Lib.hid herr
 have HKK:=Lib.hid hK
 clear hG hM hz herr hK
 go_enter Tryz.func98,Tryz.ntmps98
 go_upto_region 1 with fail
 generalize (w.alloc (.cells #[.int .i64 p,.int .i64 m,.slice Am mod.length cm,.int .i64 (n:Int),.slice A rows.length c] 32)).alloc (.cells #[.int .i64 0,.int .i64 0,.slice none 0 0,.int .i64 0,.slice none 0 0] 32)=W0 at *
 have HRG:=Lib.hid HX.out.range
 have HCK:Hid (Calls Tryz.prog 27 #[.agg #[.int .i64 p,.int .i64 m,.slice Am mod.length cm,.int .i64 (n:Int),.slice A rows.length c]] W0 fun e w'=>e=.returned (.int .i64 0)/\Below W0.heap.size W0 w'):=by
  have h:=qcS p m mod Am cm n (nzs rows) A c W0 ((HM.out.keep HX.out.below).more HX.out.below.size) (by omega) ((HG.out.keep HX.out.below).more HX.out.below.size) (by rw [qbC];omega)
  rw [HZ.out,qbC] at h
  exact h
 go_wp2_with (refine wpList_load_mid rfl 32 (.tmp 1) rfl w.heap.size 0 rfl [.int .i64 p,.int .i64 m,.slice Am mod.length cm,.int .i64 (n:Int),.slice A rows.length c] _ HRG.out Tryz.underlying32 rfl codeSize ?_)
 (with_reducible refine HCK.out.mono ?_)
 rintro e w1 ⟨rfl,hb1⟩
 have HX1:=Lib.hid (HX.out.grow hb1)
 clear hb1 HCK HX HRG
 clear W0
 have HRC:Hid (∀ W,LSkA w1 W->W.rangeAt w.heap.size 0 [.int .i64 p,.int .i64 m,.slice Am mod.length cm,.int .i64 (n:Int),.slice A rows.length c]):=fun W hW=>(HX1.out.grow hW).range
 have HRF:Hid (∀ W,LSkA w1 W->W.rangeAt w.heap.size 0 [.int .i64 p,.int .i64 m,.slice Am mod.length cm]):=fun W hW=>(HX1.out.grow hW).field
 have HS0:Hid (LSkA w1 w1.drew):=(Below.refl _ _).drew
 have HKER:Hid (∀ W,LSkA w1 W->Calls Tryz.prog 156 #[.agg #[.int .i64 p,.int .i64 m,.slice Am mod.length cm],.agg #[.int .i64 (n:Int),.slice A rows.length c]] W fun e w'=>(∃ (A':Option Addr) (c':Nat),e=.returned (.tuple #[.agg #[.int .i64 (n:Int),.slice A' K.length c'],.int .i64 0])/\RowsUp w' W.heap.size A' (nzs K))/\Below W.heap.size W w'):=fun W hW=>by
  have h:=kernel_c p m mod Am cm n rows A c W ((((HM.out.keep HX1.out.below).more HX1.out.below.size).keep hW).more (Below.size hW)) (by omega) ((((HG.out.keep HX1.out.below).more HX1.out.below.size).keep hW).more (Below.size hW)) hn1 HE.out
  rw [HKK.out] at h
  exact h
 go_upto_region 4 with fail
 go_cut [5,6] (fun v5 v6 wx=>RelDuA n K w1 v5 v6 wx)
 case first =>
  refine qfH 10 9 8 (LSkA w1) [(1,0),(0,1),(0,2),(2,3),(2,4),(1,5),(1,6),(1,7)] [(3,9)] default _ (.cells #[.int .i64 0,.slice none 0 0] 54) (by kernel_rfl) (by kernel_rfl) (fun _ _ d _ _ h=>by cases d <;> exact h) rfl rfl ?_ (fun W hW=>Below.alloc hW (Below.size hW) _) HS0.out ?_
  . intro a w
    unfold ptrTo
    go_simp
  simp only [List.map_cons,List.map_nil,List.getD_cons_zero,List.getD_cons_succ]
  apply x_free rfl
  . intro W
    go_simp
    rfl
  go_simp
  refine qeX rfl 29 (.tmp 14) rfl w.heap.size 0 rfl [.int .i64 p,.int .i64 m,.slice Am mod.length cm] _ HRF.out Tryz.underlying29 rfl fieldSize ?_
  go_simp
  refine qeX rfl 32 (.tmp 1) rfl w.heap.size 0 rfl [.int .i64 p,.int .i64 m,.slice Am mod.length cm,.int .i64 (n:Int),.slice A rows.length c] _ HRC.out Tryz.underlying32 rfl codeSize ?_
  go_simp
  apply x_call rfl
  . intro W
    go_simp
    exact ⟨rfl,rfl⟩
  intro W1 hW1 hS1
  with_reducible refine (gen_c p m Am mod.length cm n A rows.length c W1).mono ?_
  rintro e w2 ⟨rfl,hb2⟩
  refine ⟨_,rfl,Below.trans hS1 (hb2.mono (Below.size hS1)),hb2,?_⟩
  go_simp
  apply x_call rfl
  . intro W
    go_simp
    exact ⟨rfl,rfl⟩
  intro W3 hW3 hS3
  have HK3:=Lib.hid (HKER.out W3 hS3)
  with_reducible refine HK3.out.mono ?_
  rintro e w4 ⟨⟨A',c',rfl,hr4⟩,hb4⟩
  refine ⟨_,rfl,Below.trans hS3 (hb4.mono (Below.size hS3)),hb4,?_⟩
  go_simp
  iterate 3
   apply x_free rfl
   . intro W
     go_simp
     rfl
   go_simp
  refine x_nil ?_
  intro W7 b hW7 hS7 hlo hF hbx
  have hs3:w1.heap.size<=W3.heap.size:=Below.size hS3
  have hF':¬ (W3.heap.size<=b/\b<w4.heap.size):=fun h=>hF (.inr h)
  have HRW:Hid (RowsUp (W7.setRow b #[.int .i64 (n:Int),.slice A' K.length c']) w1.heap.size A' (nzs K)) :=
   (hr4.of_blocks (by simpa using hW7.size) (fun k hk1 hk2=>by rw [setRow_other _ _ _ _ (by omega),hW7.block k hk2])).lower hs3
  have HKB:Hid ((W7.setRow b #[.int .i64 (n:Int),.slice A' K.length c']).heap[b]?=some (.cells [.int .i64 (n:Int),.slice A' K.length c'].toArray 54 (0,0))):=qbI _ _ _ _ _ hbx
  have HB7:Hid (Below w1.heap.size w1 (W7.setRow b #[.int .i64 (n:Int),.slice A' K.length c'])):=qbD hS7 hlo _
  unfold ptrTo
  refine qcU rfl 54 (.tmp 5) (.tmp 19) rfl b 54 #[.int .i64 0,.slice none 0 0] #[.int .i64 (n:Int),.slice A' K.length c'] rfl rfl hbx matSize rfl (by simp [Value.oneCell']) ?_
  go_simp
  refine qbZ ?_
  show wpList _ _ _ _ _ _
  clear hr4 hb4 hW7 hS7 hlo hF hbx hF' HK3
  go_wp2_with fail
  go_meet
  exact ⟨b,A',c',rfl,rfl,HKB.out,HRW.out,HB7.out⟩
 case rest =>
  obtain ⟨b,A',c',rfl,rfl,hk,hr,hb⟩:=hcut
  have HXc:=Lib.hid (HX1.out.grow hb)
  have HRR:=Lib.hid hr
  have HRG:=Lib.hid HXc.out.field
  have HRM:Hid (wc.rangeAt b 0 [.int .i64 (n:Int),.slice A' K.length c']):=qaC hk
  have hs1:w.heap.size<=w1.heap.size:=HX1.out.below.size
  have hs2:w.heap.size+1<w1.heap.size:=HX1.out.2.2.2
  have HOF:=Lib.hid (of_any p m mod Am cm (n:Int) A' K.length c' wc ((HM.out.keep HXc.out.below).more HXc.out.below.size) hl)
  clear hk hr hb HX1 HRC HRF HS0 HKER
  go_wp2_with (first
   | (refine wpList_load_mid rfl 29 (.tmp 21) rfl w.heap.size 0 rfl [.int .i64 p,.int .i64 m,.slice Am mod.length cm] _ HRG.out Tryz.underlying29 rfl fieldSize ?_)
   | (refine wpList_load_mid rfl 54 (.tmp 5) rfl b 0 rfl [.int .i64 (n:Int),.slice A' K.length c'] _ HRM.out Tryz.underlying54 rfl matSize ?_))
  clear HM HZ HE HKK HG
  (with_reducible refine HOF.out.mono ?_)
  rintro e w2 ⟨⟨A2,c2,rfl,_⟩,hb2⟩
  have HX2:=Lib.hid (HXc.out.grow hb2)
  have HR2:=Lib.hid (HRR.out.grow hb2)
  have HK:=Lib.hid HX2.out.2.1
  have HY:=Lib.hid (HX2.out.set [.int .i64 p,.int .i64 m,.slice A2 mod.length c2,.int .i64 (n:Int),.slice A' K.length c'])
  clear hb2 HXc HRR HRG HRM
  go_wp2_with (refine qaE rfl 32 (.tmp 2) (.tmp 26) rfl w2 (w.heap.size+1) 32 #[.int .i64 0,.int .i64 0,.slice none 0 0,.int .i64 0,.slice none 0 0] #[.int .i64 p,.int .i64 m,.slice A2 mod.length c2,.int .i64 (n:Int),.slice A' K.length c'] rfl rfl HK.out codeSize rfl (by simp [Value.oneCell']) ?_)
  refine bodyPost_ret (qaP (P:=Tryz.prog) rfl _ _ (w.heap.size+1) 32 #[.int .i64 p,.int .i64 m,.slice A2 mod.length c2,.int .i64 (n:Int),.slice A' K.length c'] (0,0) _ _ rfl rfl HY.out.2.1 Tryz.underlying32 rfl codeSize) rfl ?_
  have hv:RowsUp (w2.setRow (w.heap.size+1) #[.int .i64 p,.int .i64 m,.slice A2 mod.length c2,.int .i64 (n:Int),.slice A' K.length c']) w1.heap.size A' (nzs K):=HR2.out.of_blocks (by simp) fun k hk _=>setRow_other w2 (w.heap.size+1) k _ (by omega)
  exact ⟨⟨A2,c2,A',c',rfl,hv.lower hs1⟩,HY.out.below⟩
end Go.Proofs.YtlmglaonldlanaaGreat
namespace Go.Proofs.YtlmglaonldlanaaGreat
namespace Al

/-- A field. -/
structure Fd (K : Type) [Add K] [Mul K] [Neg K] [Zero K] [One K] : Prop where
  addC : ∀ x y : K, x + y = y + x
  addA : ∀ x y z : K, x + y + z = x + (y + z)
  addZ : ∀ x : K, 0 + x = x
  addN : ∀ x : K, x + -x = 0
  mulC : ∀ x y : K, x * y = y * x
  mulA : ∀ x y z : K, x * y * z = x * (y * z)
  mulU : ∀ x : K, 1 * x = x
  dist : ∀ x y z : K, x * (y + z) = x * y + x * z
  inv : ∀ x : K, x ≠ 0 → ∃ y : K, x * y = 1
  ne : (1 : K) ≠ 0
section
variable {K : Type} [Add K] [Mul K] [Neg K] [Zero K] [One K]
def pwr (x : K) : Nat → K
  | 0 => 1
  | n + 1 => pwr x n * x
def sm (n : Nat) (f : Nat → K) : K :=
  match n with
  | 0 => 0
  | n + 1 => sm n f + f n
theorem Fd.zadd (H : Fd K) (x : K) : x + 0 = x := by rw [H.addC, H.addZ]
theorem Fd.nadd (H : Fd K) (x : K) : -x + x = 0 := by rw [H.addC, H.addN]
theorem Fd.cancel (H : Fd K) {x y z : K} (h : x + y = x + z) : y = z := by
  have h2 : -x + (x + y) = -x + (x + z) := by rw [h]
  rwa [← H.addA, ← H.addA, H.nadd, H.addZ, H.addZ] at h2
theorem Fd.mulZ (H : Fd K) (x : K) : x * 0 = 0 := by
  have h := H.dist x 0 0
  rw [H.addZ] at h
  exact H.cancel (x := x * 0) (by rw [← h, H.zadd])
theorem Fd.zmul (H : Fd K) (x : K) : 0 * x = 0 := by rw [H.mulC, H.mulZ]
theorem Fd.umul (H : Fd K) (x : K) : x * 1 = x := by rw [H.mulC, H.mulU]
theorem Fd.rdist (H : Fd K) (x y z : K) : (x + y) * z = x * z + y * z := by rw [H.mulC, H.dist, H.mulC z x, H.mulC z y]
theorem Fd.negm (H : Fd K) (x y : K) : -x * y = -(x * y) := by
  refine H.cancel (x := x * y) ?_
  rw [← H.rdist, H.addN, H.zmul, H.addN]
theorem Fd.mneg (H : Fd K) (x y : K) : x * -y = -(x * y) := by rw [H.mulC, H.negm, H.mulC]
theorem Fd.negz (H : Fd K) : -(0 : K) = 0 := by
  have h := H.addN (0 : K)
  rwa [H.addZ] at h
theorem Fd.subz (H : Fd K) {x y : K} (h : x + -y = 0) : x = y := by
  have h2 : x + -y + y = 0 + y := by rw [h]
  rwa [H.addA, H.nadd, H.zadd, H.addZ] at h2
theorem Fd.negu (H : Fd K) {x y : K} (h : x + y = 0) : y = -x := H.cancel (x := x) (by rw [h, H.addN])
theorem Fd.mulne (H : Fd K) {x y : K} (hx : x ≠ 0) (hy : y ≠ 0) : x * y ≠ 0 := fun h => by
  obtain ⟨z, hz⟩ := H.inv x hx
  have h2 : z * (x * y) = z * 0 := by rw [h]
  rw [← H.mulA, H.mulC z x, hz, H.mulU, H.mulZ] at h2
  exact hy h2
theorem Fd.mulc (H : Fd K) {x y z : K} (hx : x ≠ 0) (h : x * y = x * z) : y = z := by
  obtain ⟨u, hu⟩ := H.inv x hx
  have h2 : u * (x * y) = u * (x * z) := by rw [h]
  rwa [← H.mulA, ← H.mulA, H.mulC u x, hu, H.mulU, H.mulU] at h2
theorem Fd.pwr_ne (H : Fd K) {x : K} (hx : x ≠ 0) : ∀ n, pwr x n ≠ 0
  | 0 => H.ne
  | n + 1 => H.mulne (Fd.pwr_ne H hx n) hx
theorem Fd.pwr_add (H : Fd K) (x : K) (i : Nat) : ∀ j, pwr x (i + j) = pwr x i * pwr x j
  | 0 => by show pwr x i = pwr x i * 1; rw [H.umul]
  | j + 1 => by show pwr x (i + j) * x = pwr x i * (pwr x j * x); rw [Fd.pwr_add H x i j, H.mulA]
theorem Fd.pwr_mul (H : Fd K) (x : K) (i : Nat) : ∀ j, pwr x (i * j) = pwr (pwr x i) j
  | 0 => rfl
  | j + 1 => by rw [Nat.mul_succ, H.pwr_add, Fd.pwr_mul H x i j]; rfl
theorem Fd.pwr_prod (H : Fd K) (x y : K) : ∀ n, pwr (x * y) n = pwr x n * pwr y n
  | 0 => (H.umul 1).symm
  | n + 1 => by
    show pwr (x * y) n * (x * y) = pwr x n * x * (pwr y n * y)
    rw [Fd.pwr_prod H x y n, H.mulA, H.mulA, ← H.mulA (pwr y n) x y, H.mulC (pwr y n) x, H.mulA]
theorem Fd.pwr_one (H : Fd K) : ∀ n, pwr (1 : K) n = 1
  | 0 => rfl
  | n + 1 => by show pwr 1 n * 1 = (1 : K); rw [H.umul, Fd.pwr_one H n]
theorem Fd.pwr_mod (H : Fd K) {x : K} {n : Nat} (h : pwr x n = 1) (k : Nat) : pwr x (k % n) = pwr x k := by
  have e : pwr x k = pwr x (n * (k / n)) * pwr x (k % n) := by rw [← H.pwr_add, Nat.div_add_mod]
  rw [e, H.pwr_mul, h, H.pwr_one, H.mulU]
/-! ### Sums -/
theorem Fd.sm_zero (H : Fd K) {n : Nat} {f : Nat → K} (h : ∀ j, j < n → f j = 0) : sm n f = 0 := by
  induction n with
  | zero => rfl
  | succ n ih =>
    show sm n f + f n = 0
    rw [ih fun j hj => h j (by omega), h n (by omega), H.addZ]
theorem Fd.sm_congr (_H : Fd K) {n : Nat} {f g : Nat → K} (h : ∀ j, j < n → f j = g j) : sm n f = sm n g := by
  induction n with
  | zero => rfl
  | succ n ih =>
    show sm n f + f n = sm n g + g n
    rw [ih fun j hj => h j (by omega), h n (by omega)]
theorem Fd.sm_add (H : Fd K) (n : Nat) (f g : Nat → K) : sm n (fun j => f j + g j) = sm n f + sm n g := by
  induction n with
  | zero => exact (H.addZ 0).symm
  | succ n ih =>
    show sm n (fun j => f j + g j) + (f n + g n) = (sm n f + f n) + (sm n g + g n)
    rw [ih, H.addA, H.addA, ← H.addA (sm n g), H.addC (sm n g) (f n), H.addA]
theorem Fd.sm_mul (H : Fd K) (n : Nat) (a : K) (f : Nat → K) : sm n (fun j => a * f j) = a * sm n f := by
  induction n with
  | zero => exact (H.mulZ a).symm
  | succ n ih =>
    show sm n (fun j => a * f j) + a * f n = a * (sm n f + f n)
    rw [ih, H.dist]
theorem Fd.sm_lin (H : Fd K) (n : Nat) (a : K) (f g : Nat → K) : sm n (fun j => f j + a * g j) = sm n f + a * sm n g := by rw [H.sm_add, H.sm_mul]
theorem Fd.sm_one (H : Fd K) {n i : Nat} {f : Nat → K} (hi : i < n) (h : ∀ j, j < n → j ≠ i → f j = 0) : sm n f = f i := by
  induction n with
  | zero => omega
  | succ n ih =>
    show sm n f + f n = f i
    by_cases e : i = n
    · subst e
      rw [H.sm_zero fun j hj => h j (by omega) (by omega), H.addZ]
    · rw [ih (by omega) fun j hj hne => h j (by omega) hne, h n (by omega) (fun e2 => e e2.symm), H.zadd]
theorem Fd.sm_swap (H : Fd K) (n m : Nat) (f : Nat → Nat → K) : sm n (fun j => sm m (fun i => f i j)) = sm m (fun i => sm n (fun j => f i j)) := by
  induction m with
  | zero => exact H.sm_zero fun _ _ => rfl
  | succ m ih =>
    show sm n (fun j => sm m (fun i => f i j) + f m j) = sm m (fun i => sm n (fun j => f i j)) + sm n (fun j => f m j)
    rw [H.sm_add, ih]
/-! ### The bound of Hartmann and Tzeng -/
def prodF (x : K) : List K → K
  | [] => 1
  | a :: r => (x + -a) * prodF x r
theorem Fd.prodF_zero (H : Fd K) {x : K} : ∀ {A : List K}, x ∈ A → prodF x A = 0
  | a :: r, h => by
    show (x + -a) * prodF x r = 0
    rcases List.mem_cons.1 h with rfl | h
    · rw [H.addN, H.zmul]
    · rw [Fd.prodF_zero H h, H.mulZ]
theorem Fd.prodF_ne (H : Fd K) {x : K} : ∀ {A : List K}, x ∉ A → prodF x A ≠ 0
  | [], _ => H.ne
  | a :: r, h => by
    refine H.mulne (fun e => h ?_) (Fd.prodF_ne H fun e => h (List.mem_cons_of_mem _ e))
    rw [H.subz e]
    exact List.mem_cons_self
theorem Fd.ht_a (H : Fd K) {n C M : Nat} {c x y : Nat → K} (hz : ∀ i s, i < C → s ≤ M → sm n (fun j => c j * (pwr (x j) i * pwr (y j) s)) = 0) (s : Nat) (hs : s ≤ M) :
    ∀ (A : List K) (i : Nat), A.length + i < C → sm n (fun j => c j * ((pwr (x j) i * prodF (x j) A) * pwr (y j) s)) = 0
  | [], i, hi => by
    rw [← hz i s (by simpa using hi) hs]
    refine H.sm_congr fun j _ => ?_
    show c j * ((pwr (x j) i * 1) * pwr (y j) s) = _
    rw [H.umul]
  | a :: r, i, hi => by
    have h1 := Fd.ht_a H hz s hs r (i + 1) (by simp at hi; omega)
    have h2 := Fd.ht_a H hz s hs r i (by simp at hi; omega)
    have e : sm n (fun j => c j * ((pwr (x j) i * prodF (x j) (a :: r)) * pwr (y j) s)) = sm n (fun j => c j * ((pwr (x j) (i + 1) * prodF (x j) r) * pwr (y j) s) + -a * (c j * ((pwr (x j) i * prodF (x j) r) * pwr (y j) s))) := by
      refine H.sm_congr fun j _ => ?_
      show c j * ((pwr (x j) i * ((x j + -a) * prodF (x j) r)) * pwr (y j) s) = c j * ((pwr (x j) i * x j * prodF (x j) r) * pwr (y j) s) + -a * (c j * ((pwr (x j) i * prodF (x j) r) * pwr (y j) s))
      generalize pwr (x j) i = P, pwr (y j) s = Q, prodF (x j) r = R, x j = X, c j = D
      have i1 : Std.Associative (α := K) (· * ·) := ⟨H.mulA⟩
      have i2 : Std.Commutative (α := K) (· * ·) := ⟨H.mulC⟩
      rw [H.rdist, H.dist, H.rdist, H.dist]
      congr 1
      · ac_rfl
      · ac_rfl
    rw [e, H.sm_lin, h1, h2, H.mulZ, H.addZ]
theorem Fd.ht_b (H : Fd K) {n C M : Nat} {c x y : Nat → K} (hz : ∀ i s, i < C → s ≤ M → sm n (fun j => c j * (pwr (x j) i * pwr (y j) s)) = 0) (A : List K) (hA : A.length < C) :
    ∀ (B : List K) (s : Nat), B.length + s ≤ M → sm n (fun j => c j * (prodF (x j) A * (pwr (y j) s * prodF (y j) B))) = 0
  | [], s, hs => by
    rw [← H.ht_a hz s (by simpa using hs) A 0 (by omega)]
    refine H.sm_congr fun j _ => ?_
    show c j * (prodF (x j) A * (pwr (y j) s * 1)) = c j * ((1 * prodF (x j) A) * pwr (y j) s)
    rw [H.umul, H.mulU]
  | b :: r, s, hs => by
    have h1 := Fd.ht_b H hz A hA r (s + 1) (by simp at hs; omega)
    have h2 := Fd.ht_b H hz A hA r s (by simp at hs; omega)
    have e : sm n (fun j => c j * (prodF (x j) A * (pwr (y j) s * prodF (y j) (b :: r)))) = sm n (fun j => c j * (prodF (x j) A * (pwr (y j) (s + 1) * prodF (y j) r)) + -b * (c j * (prodF (x j) A * (pwr (y j) s * prodF (y j) r)))) := by
      refine H.sm_congr fun j _ => ?_
      show c j * (prodF (x j) A * (pwr (y j) s * ((y j + -b) * prodF (y j) r))) = c j * (prodF (x j) A * (pwr (y j) s * y j * prodF (y j) r)) + -b * (c j * (prodF (x j) A * (pwr (y j) s * prodF (y j) r)))
      generalize prodF (x j) A = P, pwr (y j) s = Q, prodF (y j) r = R, y j = Y, c j = D
      have i1 : Std.Associative (α := K) (· * ·) := ⟨H.mulA⟩
      have i2 : Std.Commutative (α := K) (· * ·) := ⟨H.mulC⟩
      rw [H.rdist, H.dist, H.dist, H.dist]
      congr 1
      · ac_rfl
      · ac_rfl
    rw [e, H.sm_lin, h1, h2, H.mulZ, H.addZ]
theorem filter_two {α : Type} (g : α → Bool) : ∀ l : List α, (l.filter g).length + (l.filter fun j => !g j).length = l.length
  | [] => rfl
  | a :: r => by
    have ih := filter_two g r
    cases hg : g a <;> simp [hg] <;> omega
/-- A nonzero word whose sums vanish has many entries. -/
theorem Fd.ht (H : Fd K) {n C M : Nat} {c x y : Nat → K} (hC : 0 < C) (hz : ∀ i s, i < C → s ≤ M → sm n (fun j => c j * (pwr (x j) i * pwr (y j) s)) = 0)
    (hx : ∀ i j, i < n → j < n → x i = x j → i = j) (hy : M = 0 ∨ ∀ (t : Nat) (L : List Nat), t < n → L.Nodup → (∀ j ∈ L, j < n ∧ y j = y t) → L.length ≤ C)
    {t : Nat} (ht : t < n) (hc : c t ≠ 0) (S : List Nat) (hS : S.Nodup) (hin : ∀ j ∈ S, j < n) (hs : ∀ j, j < n → c j ≠ 0 → j ∈ S) : C + M + 1 ≤ S.length := by
  refine Classical.byContradiction fun hlt => ?_
  have htS := hs t ht hc
  have hE := hS.erase t
  have hEl := List.length_erase_of_mem htS
  have hmE : ∀ j, j ∈ S.erase t ↔ j ≠ t ∧ j ∈ S := fun j => hS.mem_erase_iff
  -- the positions where y is as at t come first
  obtain ⟨g, hg⟩ : ∃ g : Nat → Bool, ∀ j, g j = true ↔ y j = y t := ⟨fun j => @decide _ (Classical.propDecidable (y j = y t)), fun j => by simp⟩
  have hl12 := filter_two g (S.erase t)
  generalize hS1 : (S.erase t).filter g = S1 at *
  generalize hS2 : (S.erase t).filter (fun j => !g j) = S2 at *
  have hm1 : ∀ j, j ∈ S1 ↔ j ∈ S.erase t ∧ y j = y t := fun j => by rw [← hS1, List.mem_filter, hg]
  have hm2 : ∀ j, j ∈ S2 ↔ j ∈ S.erase t ∧ y j ≠ y t := fun j => by
    rw [← hS2, List.mem_filter]
    have := hg j
    cases hgj : g j
    · rw [hgj] at this
      simp
      intro _ e
      have := this.2 e
      cases this
    · rw [hgj] at this
      simp
      intro _
      exact this.1 rfl
  have hS1n : S1.Nodup := by rw [← hS1]; exact List.Pairwise.filter _ hE
  have h1C : M = 0 ∨ S1.length ≤ C - 1 := by
    rcases hy with h | h
    · exact .inl h
    · right
      have h2 := h t (t :: S1) ht (by
        rw [List.nodup_cons]
        exact ⟨fun hm => ((hmE t).1 ((hm1 t).1 hm).1).1 rfl, hS1n⟩) (fun j hj => by
        rcases List.mem_cons.1 hj with rfl | hj
        · exact ⟨ht, rfl⟩
        · obtain ⟨h3, h4⟩ := (hm1 j).1 hj
          exact ⟨hin j ((hmE j).1 h3).2, h4⟩)
      rw [List.length_cons] at h2
      omega
  have hTl : (S1 ++ S2).length = S.length - 1 := by rw [List.length_append, hl12, hEl]
  have hAl : ((S1 ++ S2).take (C - 1)).length < C := by rw [List.length_take]; omega
  have hBl : ((S1 ++ S2).drop (C - 1)).length ≤ M := by rw [List.length_drop, hTl]; omega
  have hsum := H.ht_b hz (((S1 ++ S2).take (C - 1)).map x) (by rw [List.length_map]; exact hAl) (((S1 ++ S2).drop (C - 1)).map y) 0 (by rw [List.length_map]; omega)
  rw [H.sm_one ht] at hsum
  · refine H.mulne hc (H.mulne (H.prodF_ne fun hm => ?_) (H.mulne H.ne (H.prodF_ne fun hm => ?_))) hsum
    · obtain ⟨j, hj, e⟩ := List.mem_map.1 hm
      have hj2 := List.mem_of_mem_take hj
      have hj3 : j ∈ S.erase t := by
        rcases List.mem_append.1 hj2 with h | h
        · exact ((hm1 j).1 h).1
        · exact ((hm2 j).1 h).1
      obtain ⟨h4, h5⟩ := (hmE j).1 hj3
      exact h4 (hx j t (hin j h5) ht e)
    · obtain ⟨j, hj, e⟩ := List.mem_map.1 hm
      rcases h1C with h | h
      · rw [h] at hBl
        rw [List.length_eq_zero_iff.1 (Nat.le_zero.1 hBl)] at hj
        simp at hj
      · rw [List.drop_append, List.drop_eq_nil_of_le h, List.nil_append] at hj
        exact ((hm2 j).1 (List.mem_of_mem_drop hj)).2 e
  · intro j hj hne
    by_cases hcj : c j = 0
    · rw [hcj, H.zmul]
    · have hm : j ∈ S1 ++ S2 := by
        have h2 := (hmE j).2 ⟨hne, hs j hj hcj⟩
        rw [List.mem_append]
        by_cases hyj : y j = y t
        · exact .inl ((hm1 j).2 ⟨h2, hyj⟩)
        · exact .inr ((hm2 j).2 ⟨h2, hyj⟩)
      rw [← List.take_append_drop (C - 1) (S1 ++ S2)] at hm
      rcases List.mem_append.1 hm with h | h
      · rw [H.prodF_zero (List.mem_map.2 ⟨j, h, rfl⟩), H.zmul, H.mulZ]
      · rw [H.prodF_zero (x := y j) (List.mem_map.2 ⟨j, h, rfl⟩), H.mulZ, H.mulZ, H.mulZ]
/-! ### Polynomials -/
def ev : List K → K → K
  | [], _ => 0
  | a :: r, x => a + x * ev r x
theorem Fd.ev_div (H : Fd K) (r : K) : ∀ l : List K, ∃ l' : List K, (l.length = 0 ∨ l'.length + 1 = l.length) ∧ ∀ x, ev l x = ev l r + (x + -r) * ev l' x
  | [] => ⟨[], .inl rfl, fun x => by show (0 : K) = 0 + (x + -r) * 0; rw [H.mulZ, H.addZ]⟩
  | [a] => ⟨[], .inr rfl, fun x => by show a + x * 0 = a + r * 0 + (x + -r) * 0; rw [H.mulZ, H.mulZ, H.mulZ, H.zadd, H.zadd]⟩
  | a :: b :: l => by
    obtain ⟨l', h1, h2⟩ := Fd.ev_div H r (b :: l)
    refine ⟨ev (b :: l) r :: l', .inr (by rcases h1 with h | h <;> simp at h ⊢; omega), fun x => ?_⟩
    show a + x * ev (b :: l) x = a + r * ev (b :: l) r + (x + -r) * (ev (b :: l) r + x * ev l' x)
    rw [h2 x]
    generalize ev (b :: l) r = E, ev l' x = G
    rw [H.addA]
    congr 1
    rw [H.dist, H.dist (x + -r), ← H.addA]
    have i1 : Std.Associative (α := K) (· * ·) := ⟨H.mulA⟩
    have i2 : Std.Commutative (α := K) (· * ·) := ⟨H.mulC⟩
    have e1 : r * E + (x + -r) * E = x * E := by
      rw [← H.rdist, ← H.addA, H.addC r x, H.addA, H.addN, H.zadd]
    rw [e1]
    congr 1
    ac_rfl
/-- A polynomial with as many roots as coefficients is zero everywhere. -/
theorem Fd.roots (H : Fd K) : ∀ (l : List K) (Z : List K), Z.Nodup → (∀ z ∈ Z, ev l z = 0) → l.length ≤ Z.length → ∀ x, ev l x = 0
  | [], _, _, _, _, _ => rfl
  | a :: l, [], _, _, h, _ => by simp at h
  | a :: l, z :: Z, hn, hz, hl, x => by
    obtain ⟨l', h1, h2⟩ := H.ev_div z (a :: l)
    have h3 := hz z List.mem_cons_self
    rcases h1 with h1 | h1
    · simp at h1
    rw [List.length_cons, List.length_cons] at hl
    rw [List.length_cons] at h1
    have hl' : l'.length < (a :: l).length := by rw [List.length_cons]; omega
    have h4 := Fd.roots H l' Z (List.nodup_cons.1 hn).2 (fun y hy => by
      have h5 := hz y (List.mem_cons_of_mem _ hy)
      rw [h2 y, h3, H.addZ] at h5
      refine Classical.byContradiction fun h6 => H.mulne (fun e => ?_) h6 h5
      have := H.subz e
      subst this
      exact (List.nodup_cons.1 hn).1 hy) (by omega) x
    rw [h2 x, h3, h4, H.mulZ, H.addZ]
  termination_by l => l.length
theorem Fd.ev_lin (H : Fd K) (c : K) : ∀ (l l' : List K), l.length = l'.length → ∀ x, ev (List.zipWith (fun a b => a + c * b) l l') x = ev l x + c * ev l' x
  | [], [], _, x => by show (0 : K) = 0 + c * 0; rw [H.mulZ, H.addZ]
  | [], _ :: _, h, _ => by simp at h
  | _ :: _, [], h, _ => by simp at h
  | a :: l, b :: l', h, x => by
    show (a + c * b) + x * ev (List.zipWith (fun a b => a + c * b) l l') x = (a + x * ev l x) + c * (b + x * ev l' x)
    rw [Fd.ev_lin H c l l' (by simpa using h) x]
    generalize ev l x = P, ev l' x = Q
    have i1 : Std.Associative (α := K) (· * ·) := ⟨H.mulA⟩
    have i2 : Std.Commutative (α := K) (· * ·) := ⟨H.mulC⟩
    have i3 : Std.Associative (α := K) (· + ·) := ⟨H.addA⟩
    have i4 : Std.Commutative (α := K) (· + ·) := ⟨H.addC⟩
    rw [H.dist, H.dist]
    have e : x * (c * Q) = c * (x * Q) := by ac_rfl
    rw [e]
    ac_rfl
end
end Al
end Go.Proofs.YtlmglaonldlanaaGreat