/-
 compile: the rows of gf, called. compile.table$2: gf of a description. compile: a row of a code, called.
-/
import Derived.ArgAppend
import Derived.Test.YtaddcadapbpkfaaGreatDoorR20
import Derived.Test.YtaddcadapbpkfaaGreatDoorR21
namespace Go.Proofs.YtaddcadapbpkfaaGreatDoor
open Go.RowKit Pln
theorem valueSize : (Tryz.prog.info? 60).map (·.size) = some 10 := by kernel_rfl
def fldRes (r : FR) : Res := if r.e = 0 then .ok (.fld r.p r.m r.mod) else .error r.e
def zero10 : Array Value := #[.int .i64 0,.int .i64 0,.slice none 0 0,.int .i64 0,.int .i64 0,.slice none 0 0,.int .i64 0,.slice none 0 0,.int .i64 0,.slice none 0 0]
set_option maxHeartbeats 4000000 in
set_option maxRecDepth 100000 in
theorem fieldRow1_c (mid b : Nat) (S : Value) (r : FR) (F : Nat -> Prop) (w : World) (hcf : ∀ (xs : Array Value) (w : World),(callFunc mid xs).run Tryz.prog w = .ok (.enter mid xs) w) (hc : Cap w b (.func (.func mid) #[] #[]) 94) (hm : ∀ W,Below w.heap.size w W -> Calls Tryz.prog mid #[S] W (FldPost W r)) :
 Calls Tryz.prog 81 #[S,.pointer (some ⟨b,0,none⟩)] w (MeanPost w F (fldRes r)) := by
 have HX := Lib.hid (bx1 w #[.int .i64 0,.int .i64 0,.slice none 0 0,.int .i64 0,.int .i64 0,.slice none 0 0,.int .i64 0,.slice none 0 0,.int .i64 0,.slice none 0 0] 60)
 have HM := Lib.hid hm
 have HC := Lib.hid (hc.keep HX.out.below)
 have hWl : w.heap.size < (w.alloc (.cells #[.int .i64 0,.int .i64 0,.slice none 0 0,.int .i64 0,.int .i64 0,.slice none 0 0,.int .i64 0,.slice none 0 0,.int .i64 0,.slice none 0 0] 60)).heap.size := by simp
 clear hm hc
 go_enter Tryz.func81,Tryz.ntmps81
 go_upto_region 1 with fail
 generalize w.alloc (.cells #[.int .i64 0,.int .i64 0,.slice none 0 0,.int .i64 0,.int .i64 0,.slice none 0 0,.int .i64 0,.slice none 0 0,.int .i64 0,.slice none 0 0] 60) = W at *
 have c0 := cell_of_one HC.out
 go_wp2_with fail
 refine (HM.out W HX.out.below).mono ?_
 rintro e w1 ⟨⟨A,c,rfl,hA⟩,hb1⟩
 have HX1 := Lib.hid (HX.out.keep hb1)
 have HA := Lib.hid hA
 have HXA := Lib.hid (HX1.out.keep ((Below.refl w1.heap.size w1).alloc (Nat.le_refl _) (.cells #[.int .i64 r.p,.int .i64 r.m,.slice A r.mod.length c] 29)))
 have k0 := HXA.out.at_ (i := 0) rfl
 have HK0 := Lib.hid k0
 clear hb1 hA HX c0 k0 HX1
 go_wp2_with (first
  | (refine qaC rfl 29 (.tmp 5) (.tmp 11) rfl w1 _ #[.int .i64 r.p,.int .i64 r.m,.slice A r.mod.length c] rfl rfl fieldSize rfl (by simp [Value.oneCell']) ?_)
  | (refine wpList_load_mid rfl 29 (.tmp 5) rfl w1.heap.size 0 rfl [.int .i64 r.p,.int .i64 r.m,.slice A r.mod.length c] _ (qaB (heap_alloc_new _ _)) Tryz.underlying29 rfl fieldSize ?_)
  | (refine qaA rfl 60 (.tmp 3) (.tmp 14) rfl _ w.heap.size 60 zero10 #[.int .i64 r.p,.int .i64 r.m,.slice A r.mod.length c,.int .i64 0,.int .i64 0,.slice none 0 0,.int .i64 0,.slice none 0 0,.int .i64 0,.slice none 0 0] rfl rfl HK0.out valueSize rfl (by simp [Value.oneCell']) ?_))
 have HKY : Hid (((w1.alloc (.cells #[.int .i64 r.p,.int .i64 r.m,.slice A r.mod.length c] 29)).setRow w.heap.size #[.int .i64 r.p,.int .i64 r.m,.slice A r.mod.length c,.int .i64 0,.int .i64 0,.slice none 0 0,.int .i64 0,.slice none 0 0,.int .i64 0,.slice none 0 0]).heap[w.heap.size]? = some (.cells #[.int .i64 r.p,.int .i64 r.m,.slice A r.mod.length c,.int .i64 0,.int .i64 0,.slice none 0 0,.int .i64 0,.slice none 0 0,.int .i64 0,.slice none 0 0] 60 (0,0))) := qaF _ _ _ _ _ HK0.out
 refine bodyPost_ret (qaE (P := Tryz.prog) rfl _ _ w.heap.size 60 #[.int .i64 r.p,.int .i64 r.m,.slice A r.mod.length c,.int .i64 0,.int .i64 0,.slice none 0 0,.int .i64 0,.slice none 0 0,.int .i64 0,.slice none 0 0] (0,0) _ _ rfl rfl HKY.out Tryz.underlying60 rfl valueSize) rfl ?_
 refine ⟨⟨[.int .i64 r.p,.int .i64 r.m,.slice A r.mod.length c,.int .i64 0,.int .i64 0,.slice none 0 0,.int .i64 0,.slice none 0 0,.int .i64 0,.slice none 0 0],r.e,rfl,rfl,qbQ rfl,?_⟩,qaD HXA.out.below (Nat.le_refl _) _⟩
 unfold fldRes
 have hlt : w.heap.size < W.heap.size := hWl
 by_cases he : r.e = 0
 . rw [if_pos he]
   refine ⟨he,A,c,rfl,?_⟩
   have h1 := (HA.out.grow ((Below.refl w1.heap.size w1).alloc (Nat.le_refl _) (.cells #[.int .i64 r.p,.int .i64 r.m,.slice A r.mod.length c] 29)))
   have h2 := h1.of_blocks (w' := (w1.alloc (.cells #[.int .i64 r.p,.int .i64 r.m,.slice A r.mod.length c] 29)).setRow w.heap.size #[.int .i64 r.p,.int .i64 r.m,.slice A r.mod.length c,.int .i64 0,.int .i64 0,.slice none 0 0,.int .i64 0,.slice none 0 0,.int .i64 0,.slice none 0 0]) (by simp) (fun k hk _ => setRow_other _ _ _ _ (by omega))
   exact (ints_up h2).mono fun b hb _ => ⟨.inr (by have hb : W.heap.size <= b := hb;omega),rfl⟩
 . rw [if_neg he]
   exact ⟨rfl,he⟩
set_option maxHeartbeats 4000000 in
set_option maxRecDepth 100000 in
theorem table1_c (g c : Nat) (n : Int) (F : Nat -> Prop) (w : World) (hv : ValsAt w F g 1 [.num n]) :
 Calls Tryz.prog 46 #[.slice (some ⟨g,0,none⟩) 1 c] w (FldPost w (stdM n)) := by
 have HX := Lib.hid (bx1 w #[.int .i64 0,.int .i64 0,.slice none 0 0] 29)
 have hk := hv.keep HX.out.below
 obtain ⟨cs,hc,hr⟩ := hk.val 0 _ rfl
 have hc : cs = _ := hc
 subst hc
 have HR := Lib.hid hr
 have hWl : w.heap.size < (w.alloc (.cells #[.int .i64 0,.int .i64 0,.slice none 0 0] 29)).heap.size := by simp
 clear hk hr hv
 go_enter Tryz.func46,Tryz.ntmps46
 go_upto_region 1 with fail
 generalize w.alloc (.cells #[.int .i64 0,.int .i64 0,.slice none 0 0] 29) = W at *
 have c8 : W.cell? ⟨g,8,none⟩ = some (.int .i64 n) := HR.out 8 _ rfl
 go_wp2_with fail
 refine (std_c n W).mono ?_
 rintro e w1 ⟨⟨A,c',rfl,hA⟩,hb1⟩
 have HX1 := Lib.hid (HX.out.keep hb1)
 have HA := Lib.hid hA
 have k0 := HX1.out.at_ (i := 0) rfl
 have HK0 := Lib.hid k0
 clear hb1 hA c8 k0
 have HKY : Hid ((w1.setRow w.heap.size #[.int .i64 (stdM n).p,.int .i64 (stdM n).m,.slice A (stdM n).mod.length c']).heap[w.heap.size]? = some (.cells #[.int .i64 (stdM n).p,.int .i64 (stdM n).m,.slice A (stdM n).mod.length c'] 29 (0,0))) := qaF _ _ _ _ _ HK0.out
 go_wp2_with (refine qaA rfl 29 (.tmp 2) (.tmp 9) rfl _ w.heap.size 29 #[.int .i64 0,.int .i64 0,.slice none 0 0] #[.int .i64 (stdM n).p,.int .i64 (stdM n).m,.slice A (stdM n).mod.length c'] rfl rfl HK0.out fieldSize rfl (by simp [Value.oneCell']) ?_)
 refine bodyPost_ret (qaE (P := Tryz.prog) rfl _ _ w.heap.size 29 #[.int .i64 (stdM n).p,.int .i64 (stdM n).m,.slice A (stdM n).mod.length c'] (0,0) _ _ rfl rfl HKY.out Tryz.underlying29 rfl fieldSize) rfl ?_
 refine ⟨⟨A,c',rfl,?_⟩,qaD HX1.out.below (Nat.le_refl _) _⟩
 exact (HA.out.of_blocks (by simp) (fun k hk _ => setRow_other _ _ _ _ (by omega))).lower (Nat.le_of_lt hWl)
end Go.Proofs.YtaddcadapbpkfaaGreatDoor
namespace Go.Proofs.YtaddcadapbpkfaaGreatDoor
open Go.RowKit Pln
def chkR (p m : Int) (l : List Int) : FR := if fieldOK p m l = true then ⟨0,p,m,l⟩ else .err 1
theorem run_copy_ints (ty : TypeId) (b0 : Nat) (A : Option Addr) (c : Nat) (zs : List Int) (W : World) (hA : IntsAt W W.heap.size A zs) (hl : zs.length <= 1000000) :
 ∃ (A' : Option Addr) (c' : Nat) (w' : World),(Builtin.append_ #[22,22] ty #[.slice (some ⟨b0,0,none⟩) 0 0,.slice A zs.length c]).run Tryz.prog W = .ok (.slice A' zs.length c') w' /\ IntsUp w' W.heap.size A' zs /\ Below W.heap.size W w' := by
 obtain ⟨i0,hi,hz0,hz1,hz2⟩ := info_parts infoInt
 by_cases h0 : zs.length = 0
 . refine ⟨some ⟨b0,0,none⟩,0,W,?_,fun h => absurd h (by omega),Below.refl _ _⟩
   rw [h0]
   cases A <;> simp [Builtin.append_,run_underlying Tryz.underlying22,sizeOf,typeInfo,hi,Builtin.lenOf,Builtin.firstCells,storeCells,loadCells,loadCellsFrom]
 . obtain ⟨b,o,rfl,hb,hc⟩ := hA (by omega)
   obtain ⟨v',w',hrun,hown,hg⟩ := run_append_arg_grows (P := Tryz.prog) W 22 ty 3 i0 _ 1 8 Tryz.underlying22 hi hz0 hz1 hz2 rfl (by decide) ⟨b0,0,none⟩ 0 0 [] rfl (fun j u hj => by simp at hj) ⟨b,o,none⟩ zs.length c (zs.map (Value.int .i64)) (by simp) (IntsAt.news (B := W.heap.size) (fun hz => ⟨b,o,rfl,hb,hc⟩)) (by omega) (by unfold maxLen;omega) (by omega)
   obtain ⟨g,cap,rfl,hlo,hlt⟩ := hown.form (by omega)
   refine ⟨some ⟨g,0,none⟩,cap,w',by rw [hrun];simp,fun _ => ⟨g,0,rfl,hlo,hlt,fun j hj => ?_⟩,⟨hg.os,hg.tape,hg.output,hg.size,fun k hk => hg.block k hk (by simp)⟩⟩
   have := hown.cells (g := g) rfl j (.int .i64 (zs.getD j 0)) (by simp [List.getD,hj])
   rw [Addr.add_mid] at this
   exact this
theorem qdZ {P : Program} {o : Oper} {a : Act} (s x : Operand) (t : TypeId) (ho : o.op = .call { callee := .builtin .append,args := #[s,x],argTypes := #[t,t] }) {v1 v2 : Value} (hs : a.eval s = v1) (hx : a.eval x = v2) {W w' : World} {v : Value}
 (h : (Builtin.append_ #[t,t] o.type #[v1,v2]).run P W = .ok v w') : (execOp a.eval o).run P W = .ok (.value v) w' := by
 unfold execOp
 simp only [ho,resolve,invoke,builtin,Sem.run_bind,Sem.run_pure,Result.andThen_ok,List.map_toArray,List.map_cons,List.map_nil,hs,hx,h]
theorem qeX {w' W : World} {lo lo' b : Nat} {A : Option Addr} {zs : List Int} (h : IntsUp w' lo A zs) (hb : ¬ (lo <= b /\ b < w'.heap.size)) (h3 : Below w'.heap.size w' W) (hl : lo' <= lo) (cs : Array Value) : IntsUp (W.setRow b cs) lo' A zs := fun hz => by
 obtain ⟨b',o,e,hlo,hlt,hc⟩ := h hz
 have hne : b' ≠ b := fun e => hb (e ▸ ⟨hlo,hlt⟩)
 refine ⟨b',o,e,by omega,by have := h3.size;simp;omega,fun j hj => ?_⟩
 exact (World.cell?_of_block (a := ⟨b',o + j,none⟩) (setRow_other W b b' cs hne)).trans ((h3.cell (p := ⟨b',o + j,none⟩) hlt).trans (hc j hj))
def LSt2 (a w : World) : Prop := Below a.heap.size a w
def RelGf (w : World) (p m : Int) (l : List Int) (v4 : Value) (wx : World) : Prop :=
 ∃ (b : Nat) (A' : Option Addr) (c' : Nat),v4 = .pointer (some ⟨b,0,none⟩) /\ w.heap.size < b /\ wx.heap[b]? = some (.cells [.int .i64 p,.int .i64 m,.slice A' l.length c'].toArray 29 (0,0)) /\ IntsUp wx (w.heap.size + 1) A' l /\ Bx w [([.int .i64 0,.int .i64 0,.slice none 0 0],29)] wx
set_option maxHeartbeats 4000000 in
set_option maxRecDepth 100000 in
theorem table2_c (g c : Nat) (p m : Int) (l : List Int) (F : Nat -> Prop) (w : World) (hv : ValsAt w F g 3 [.num p,.num m,.lst l]) (hl : l.length <= 1000000) :
 Calls Tryz.prog 48 #[.slice (some ⟨g,0,none⟩) 3 c] w (FldPost w (chkR p m l)) := by
 have HX := Lib.hid (bx1 w #[.int .i64 0,.int .i64 0,.slice none 0 0] 29)
 have hk := hv.keep HX.out.below
 obtain ⟨cs,hc,hr0⟩ := hk.val 0 _ rfl
 have hc : cs = _ := hc
 subst hc
 obtain ⟨cs,hc,hr1⟩ := hk.val 1 _ rfl
 have hc : cs = _ := hc
 subst hc
 obtain ⟨cs,⟨A,cl,rfl,hA⟩,hr2⟩ := hk.val 2 _ rfl
 have HK := Lib.hid hk
 have HR0 := Lib.hid hr0
 have HR1 := Lib.hid hr1
 have HR2 := Lib.hid hr2
 have HA := Lib.hid hA.at_
 have hWl : w.heap.size + 1 = (w.alloc (.cells #[.int .i64 0,.int .i64 0,.slice none 0 0] 29)).heap.size := by simp
 have HWL := Lib.hid hWl
 clear hk hr0 hr1 hr2 hv hA hWl
 go_enter Tryz.func48,Tryz.ntmps48
 go_upto_region 1 with fail
 generalize w.alloc (.cells #[.int .i64 0,.int .i64 0,.slice none 0 0] 29) = W0 at *
 have HCV : Hid (∀ W,LSt2 W0 W -> W.cell? ⟨g,8,none⟩ = some (.int .i64 p) /\ W.cell? ⟨g,18,none⟩ = some (.int .i64 m) /\ W.cell? ⟨g,29,none⟩ = some (.slice A l.length cl)) := fun W hW =>
  ⟨(Below.cell hW (p := ⟨g,8,none⟩) HK.out.lt).trans (HR0.out 8 _ rfl),(Below.cell hW (p := ⟨g,18,none⟩) HK.out.lt).trans (HR1.out 8 _ rfl),(Below.cell hW (p := ⟨g,29,none⟩) HK.out.lt).trans (HR2.out 9 _ rfl)⟩
 have HS0 : Hid (LSt2 W0 W0.drew) := (Below.refl _ _).drew
 go_cut [4] (fun v4 wx => RelGf w p m l v4 wx)
 case first =>
  refine qbU 16 16 15 (LSt2 W0) [(1,0),(1,1),(1,2),(0,3),(1,4),(1,5),(1,6),(0,7),(1,9),(1,10),(1,11),(0,12),(2,8),(2,13),(1,14)] [] default _ (.cells #[.int .i64 0,.int .i64 0,.slice none 0 0] 29) (by kernel_rfl) (by kernel_rfl) (fun _ _ d _ _ h => by cases d <;> exact h) rfl rfl ?_ (fun W hW => Below.alloc hW (Below.size hW) _) HS0.out ?_
  . intro a w
    unfold ptrTo
    go_simp
  simp only [List.map_cons,List.map_nil,List.getD_cons_zero,List.getD_cons_succ]
  iterate 3
   apply qeK rfl
   . intro W
     go_simp
     rfl
   go_simp
  apply x_val rfl
  . intro W hW
    obtain ⟨z0,z1,z2⟩ := HCV.out W hW
    go_simp
    rfl
  go_simp
  iterate 3
   apply qeK rfl
   . intro W
     go_simp
     rfl
   go_simp
  apply x_val rfl
  . intro W hW
    obtain ⟨z0,z1,z2⟩ := HCV.out W hW
    go_simp
    rfl
  go_simp
  iterate 3
   apply qeK rfl
   . intro W
     go_simp
     rfl
   go_simp
  apply x_val rfl
  . intro W hW
    obtain ⟨z0,z1,z2⟩ := HCV.out W hW
    go_simp
    rfl
  go_simp
  apply x_step rfl
  intro W1 hW1 hS1
  refine ⟨.slice (some ⟨W1.heap.size,0,none⟩) 0 0,W1.alloc (.cells #[] 3),by go_simp,Below.alloc hS1 (Below.size hS1) _,(Below.refl _ _).alloc (Nat.le_refl _) _,?_⟩
  go_simp
  generalize W1.heap.size = b0 at *
  clear hW1 hS1
  apply x_step rfl
  intro W2 hW2 hS2
  obtain ⟨A',c',w',hrun,hup,hbl⟩ := run_copy_ints 22 b0 A cl l W2 ((HA.out.keep hS2).more (Below.size hS2)) hl
  refine ⟨.slice A' l.length c',w',qdZ (.tmp 14) (.tmp 18) 22 rfl rfl rfl hrun,Below.trans hS2 (hbl.mono (Below.size hS2)),hbl,?_⟩
  go_simp
  have HUP := Lib.hid hup
  have hs2 : W0.heap.size <= W2.heap.size := Below.size hS2
  have HS3 : Hid (LSt2 W0 w') := Below.trans hS2 (hbl.mono (Below.size hS2))
  clear hW2 hS2 hrun hup hbl
  apply qeK rfl
  . intro W
    go_simp
    rfl
  go_simp
  refine x_nil ?_
  intro W3 b hW3 hS3 hlo hF hb
  have HUP3 : Hid (∀ cs,IntsUp (W3.setRow b cs) (w.heap.size + 1) A' l) := fun cs => qeX HUP.out (fun h => hF (.inr h)) hW3 (by have := HWL.out;omega) cs
  have HX3 := Lib.hid (HX.out.keep hS3)
  have HB := Lib.hid hb
  have hbg : w.heap.size < b := by have := HWL.out;omega
  have HKY : Hid ((W3.setRow b #[.int .i64 p,.int .i64 m,.slice A' l.length c']).heap[b]? = some (.cells #[.int .i64 p,.int .i64 m,.slice A' l.length c'] 29 (0,0))) := qaF _ _ _ _ _ hb
  have HTY : Hid (Bx w [([.int .i64 0,.int .i64 0,.slice none 0 0],29)] (W3.setRow b #[.int .i64 p,.int .i64 m,.slice A' l.length c'])) := by
   refine ⟨qaD HX3.out.1 (by omega) _,by simpa using HX3.out.2.1,fun i cc hcc => ?_⟩
   have hi : i = 0 := by have := (List.getElem?_eq_some_iff.1 hcc).1;simp at this;exact this
   subst hi
   exact (setRow_other W3 b _ _ (by omega)).trans (HX3.out.2.2 0 cc hcc)
  show wpList _ _ _ _ _ _
  go_simp
  clear hW3 hS3 hlo hb HUP hF hs2
  go_wp2_with (refine qaA rfl 29 (.tmp 4) (.tmp 20) rfl W3 b 29 #[.int .i64 0,.int .i64 0,.slice none 0 0] #[.int .i64 p,.int .i64 m,.slice A' l.length c'] rfl rfl HB.out fieldSize rfl (by simp [Value.oneCell']) ?_)
  go_meet
  exact ⟨b,A',c',rfl,hbg,HKY.out,HUP3.out _,HTY.out⟩
 case rest =>
  obtain ⟨b,A',c',rfl,hbg,hkb,hup,hx⟩ := hcut
  have HKB := Lib.hid hkb
  have HUP := Lib.hid hup
  have HX2 := Lib.hid hx
  have hbl : b < wc.heap.size := (Array.getElem?_eq_some_iff.1 hkb).1
  have HCK := Lib.hid (fcheck_c p m l A' c' wc hup.ints (by omega))
  clear hkb hup hx HX HCV HS0 HA HR0 HR1 HR2 HK
  go_wp2_with (refine wpList_load_mid rfl 29 (.tmp 4) rfl b 0 rfl [.int .i64 p,.int .i64 m,.slice A' l.length c'] _ (qaB HKB.out) Tryz.underlying29 rfl fieldSize ?_)
  refine HCK.out.mono ?_
  rintro e w2 ⟨rfl,hb2⟩
  have HKB2 := Lib.hid ((hb2.block b hbl).trans HKB.out)
  have HUP2 := Lib.hid (HUP.out.grow hb2)
  have HX3 := Lib.hid (HX2.out.keep hb2)
  have k0 := HX3.out.at_ (i := 0) rfl
  have HK0 := Lib.hid k0
  clear hb2 HKB HUP HX2 HCK k0
  cases hf : fieldOK p m l
  . have HRE : Hid (chkR p m l = .err 1) := by show _ = _;unfold chkR;rw [hf];rfl
    rw [show errF false = 1 from rfl]
    clear hf
    have HKY : Hid ((w2.setRow w.heap.size #[.int .i64 0,.int .i64 0,.slice none 0 0]).heap[w.heap.size]? = some (.cells #[.int .i64 0,.int .i64 0,.slice none 0 0] 29 (0,0))) := qaF _ _ _ _ _ HK0.out
    go_wp2_with (refine qaA rfl 29 (.tmp 2) (.tmp 25) rfl w2 w.heap.size 29 #[.int .i64 0,.int .i64 0,.slice none 0 0] #[.int .i64 0,.int .i64 0,.slice none 0 0] rfl rfl HK0.out fieldSize rfl (by simp [Value.oneCell']) ?_)
    refine bodyPost_ret (qaE (P := Tryz.prog) rfl _ _ w.heap.size 29 #[.int .i64 0,.int .i64 0,.slice none 0 0] (0,0) _ _ rfl rfl HKY.out Tryz.underlying29 rfl fieldSize) rfl ?_
    rw [HRE.out]
    exact ⟨⟨none,0,rfl,qdC _ _ _⟩,qaD HX3.out.below (Nat.le_refl _) _⟩
  . have HRE : Hid (chkR p m l = ⟨0,p,m,l⟩) := by show _ = _;unfold chkR;rw [hf];rfl
    rw [show errF true = 0 from rfl]
    clear hf
    have HKY : Hid ((w2.setRow w.heap.size #[.int .i64 p,.int .i64 m,.slice A' l.length c']).heap[w.heap.size]? = some (.cells #[.int .i64 p,.int .i64 m,.slice A' l.length c'] 29 (0,0))) := qaF _ _ _ _ _ HK0.out
    go_wp2_with (first
     | (refine wpList_load_mid rfl 29 (.tmp 4) rfl b 0 rfl [.int .i64 p,.int .i64 m,.slice A' l.length c'] _ (qaB HKB2.out) Tryz.underlying29 rfl fieldSize ?_)
     | (refine qaA rfl 29 (.tmp 2) (.tmp 27) rfl w2 w.heap.size 29 #[.int .i64 0,.int .i64 0,.slice none 0 0] #[.int .i64 p,.int .i64 m,.slice A' l.length c'] rfl rfl HK0.out fieldSize rfl (by simp [Value.oneCell']) ?_))
    refine bodyPost_ret (qaE (P := Tryz.prog) rfl _ _ w.heap.size 29 #[.int .i64 p,.int .i64 m,.slice A' l.length c'] (0,0) _ _ rfl rfl HKY.out Tryz.underlying29 rfl fieldSize) rfl ?_
    rw [HRE.out]
    exact ⟨⟨A',c',rfl,(HUP2.out.of_blocks (by simp) (fun k hk _ => setRow_other _ _ _ _ (by omega))).lower (by omega)⟩,qaD HX3.out.below (Nat.le_refl _) _⟩
end Go.Proofs.YtaddcadapbpkfaaGreatDoor
namespace Go.Proofs.YtaddcadapbpkfaaGreatDoor
open Go.RowKit Pln
def CdIs (w' : World) (lo : Nat) (r : Res) (k : Int) (v0 v1 v2 v3 v4 : Value) : Prop := match r with
 | .error k' => k = k' /\ k' ≠ 0
 | .ok (.cod p m mod n rows) => k = 0 /\ ∃ A c R kk,v0 = .int .i64 p /\ v1 = .int .i64 m /\ v2 = .slice A mod.length c /\ v3 = .int .i64 n /\ v4 = .slice R rows.length kk /\ IntsUp w' lo A mod /\ RowsUp w' lo R (nzs rows)
 | .ok _ => False
def CdPost (w : World) (r : Res) (e : Ending) (w' : World) : Prop :=
 (∃ (v0 v1 v2 v3 v4 : Value) (k : Int),e = .returned (.tuple #[.agg #[v0,v1,v2,v3,v4],.int .i64 k]) /\ (∀ x ∈ [v0,v1,v2,v3,v4],x.oneCell' = true) /\ CdIs w' w.heap.size r k v0 v1 v2 v3 v4) /\ Below w.heap.size w w'
set_option maxHeartbeats 4000000 in
set_option maxRecDepth 100000 in
theorem codeRow1_c (mid b : Nat) (caps : Array Value) (S : Value) (r : Res) (F : Nat -> Prop) (w : World) (hcf : ∀ (xs : Array Value) (w : World),(callFunc mid xs).run Tryz.prog w = .ok (.enter mid xs) w) (hc : Cap w b (.func (.func mid) #[] caps) 134) (hm : ∀ W,Below w.heap.size w W -> Calls Tryz.prog mid (#[S] ++ caps) W (CdPost W r)) :
 Calls Tryz.prog 183 #[S,.pointer (some ⟨b,0,none⟩)] w (MeanPost w F r) := by
 have HX := Lib.hid (bx1 w #[.int .i64 0,.int .i64 0,.slice none 0 0,.int .i64 0,.int .i64 0,.slice none 0 0,.int .i64 0,.slice none 0 0,.int .i64 0,.slice none 0 0] 60)
 have HM := Lib.hid hm
 have HC := Lib.hid (hc.keep HX.out.below)
 have hWl : w.heap.size < (w.alloc (.cells #[.int .i64 0,.int .i64 0,.slice none 0 0,.int .i64 0,.int .i64 0,.slice none 0 0,.int .i64 0,.slice none 0 0,.int .i64 0,.slice none 0 0] 60)).heap.size := by simp
 clear hm hc
 go_enter Tryz.func183,Tryz.ntmps183
 go_upto_region 1 with fail
 generalize w.alloc (.cells #[.int .i64 0,.int .i64 0,.slice none 0 0,.int .i64 0,.int .i64 0,.slice none 0 0,.int .i64 0,.slice none 0 0,.int .i64 0,.slice none 0 0] 60) = W at *
 have c0 := cell_of_one HC.out
 go_wp2_with fail
 refine (HM.out W HX.out.below).mono ?_
 rintro e w1 ⟨⟨v0,v1,v2,v3,v4,k,rfl,hone,hres⟩,hb1⟩
 have HX1 := Lib.hid (HX.out.keep hb1)
 have HRES := Lib.hid hres
 have HB1 := Lib.hid hb1
 have hone2 : (#[v0,v1,v2,v3,v4].all fun v => v.oneCell') = true := by
  have h0 := hone v0 (by simp)
  have h1 := hone v1 (by simp)
  have h2 := hone v2 (by simp)
  have h3 := hone v3 (by simp)
  have h4 := hone v4 (by simp)
  simp [h0,h1,h2,h3,h4]
 have hone3 : (#[.int .i64 0,.int .i64 0,.slice none 0 0,v0,v1,v2,v3,v4,.int .i64 0,.slice none 0 0].all fun v : Value => v.oneCell') = true := by
  have h0 := hone v0 (by simp)
  have h1 := hone v1 (by simp)
  have h2 := hone v2 (by simp)
  have h3 := hone v3 (by simp)
  have h4 := hone v4 (by simp)
  have z1 : (Value.int .i64 0).oneCell' = true := rfl
  have z2 : (Value.slice none 0 0).oneCell' = true := rfl
  simp [h0,h1,h2,h3,h4,z1,z2]
 have HXA := Lib.hid (HX1.out.keep ((Below.refl w1.heap.size w1).alloc (Nat.le_refl _) (.cells #[v0,v1,v2,v3,v4] 35)))
 have k0 := HXA.out.at_ (i := 0) rfl
 have HK0 := Lib.hid k0
 clear hb1 hres HX c0 k0 HX1 hone
 go_wp2_with (first
  | (refine qaC rfl 35 (.tmp 5) (.tmp 11) rfl w1 _ #[v0,v1,v2,v3,v4] rfl rfl codeSize rfl hone2 ?_)
  | (refine wpList_load_mid rfl 35 (.tmp 5) rfl w1.heap.size 0 rfl [v0,v1,v2,v3,v4] _ (qaB (heap_alloc_new _ _)) Tryz.underlying35 rfl codeSize ?_)
  | (refine qaA rfl 60 (.tmp 3) (.tmp 14) rfl _ w.heap.size 60 zero10 #[.int .i64 0,.int .i64 0,.slice none 0 0,v0,v1,v2,v3,v4,.int .i64 0,.slice none 0 0] rfl rfl HK0.out valueSize rfl hone3 ?_))
 have HKY : Hid (((w1.alloc (.cells #[v0,v1,v2,v3,v4] 35)).setRow w.heap.size #[.int .i64 0,.int .i64 0,.slice none 0 0,v0,v1,v2,v3,v4,.int .i64 0,.slice none 0 0]).heap[w.heap.size]? = some (.cells #[.int .i64 0,.int .i64 0,.slice none 0 0,v0,v1,v2,v3,v4,.int .i64 0,.slice none 0 0] 60 (0,0))) := qaF _ _ _ _ _ HK0.out
 refine bodyPost_ret (qaE (P := Tryz.prog) rfl _ _ w.heap.size 60 #[.int .i64 0,.int .i64 0,.slice none 0 0,v0,v1,v2,v3,v4,.int .i64 0,.slice none 0 0] (0,0) _ _ rfl rfl HKY.out Tryz.underlying60 rfl valueSize) rfl ?_
 refine ⟨⟨[.int .i64 0,.int .i64 0,.slice none 0 0,v0,v1,v2,v3,v4,.int .i64 0,.slice none 0 0],k,rfl,rfl,qbQ (by simpa using hone3),?_⟩,qaD HXA.out.below (Nat.le_refl _) _⟩
 have hba := (Below.refl w1.heap.size w1).alloc (Nat.le_refl _) (.cells #[v0,v1,v2,v3,v4] 35)
 have hr := HRES.out
 cases r with
 | error k' => exact hr
 | ok v =>
   cases v with
   | cod p m mod n rows =>
     obtain ⟨rfl,A,c,R,kk,rfl,rfl,rfl,rfl,rfl,hA,hR⟩ := hr
     have g1 := (ints_up ((hA.grow hba).of_blocks (w' := (w1.alloc (.cells #[.int .i64 p,.int .i64 m,.slice A mod.length c,.int .i64 n,.slice R rows.length kk] 35)).setRow w.heap.size #[.int .i64 0,.int .i64 0,.slice none 0 0,.int .i64 p,.int .i64 m,.slice A mod.length c,.int .i64 n,.slice R rows.length kk,.int .i64 0,.slice none 0 0]) (by simp) (fun k hk _ => setRow_other _ _ _ _ (by omega)))).mono (F' := fun b => F b \/ w.heap.size <= b) fun b hb _ => ⟨.inr (by have hb : W.heap.size <= b := hb;omega),rfl⟩
     have g2 := (rows_up ((hR.grow hba).of_blocks (w' := (w1.alloc (.cells #[.int .i64 p,.int .i64 m,.slice A mod.length c,.int .i64 n,.slice R rows.length kk] 35)).setRow w.heap.size #[.int .i64 0,.int .i64 0,.slice none 0 0,.int .i64 p,.int .i64 m,.slice A mod.length c,.int .i64 n,.slice R rows.length kk,.int .i64 0,.slice none 0 0]) (by simp) (fun k hk _ => setRow_other _ _ _ _ (by omega)))).mono (F' := fun b => F b \/ w.heap.size <= b) fun b hb _ => ⟨.inr (by have hb : W.heap.size <= b := hb;omega),rfl⟩
     exact ⟨rfl,A,c,R,kk,rfl,g1,g2⟩
   | fld p m mod => exact hr.elim
   | num n => exact hr.elim
   | lst l => exact hr.elim
end Go.Proofs.YtaddcadapbpkfaaGreatDoor
