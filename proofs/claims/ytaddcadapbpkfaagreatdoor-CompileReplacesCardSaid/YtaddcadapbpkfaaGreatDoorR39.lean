/-
 compile: the rows rs and shorten at the example. compile: the example's expression: what it means, its lower bound.
-/
import Derived.Test.YtaddcadapbpkfaaGreatDoorR34
import Derived.Test.YtaddcadapbpkfaaGreatDoorR38
namespace Go.Proofs.YtaddcadapbpkfaaGreatDoor
open Go.RowKit Pln
theorem cdPost_of {w : World} {lo : Nat} {p m : Int} {mod : List Int} {cols : Int} {rows : List (List Nat)} {w' : World} {g c' : Nat} {R : Option Addr} {k : Nat} (hA : IntsUp w' lo (some ⟨g,0,none⟩) mod) (hR : RowsUp w' lo R (nzs rows)) (hlo : w.heap.size <= lo) (hb : Below w.heap.size w w') :
 CdPost w (.ok (.cod p m mod cols rows)) (.returned (.tuple #[.agg #[.int .i64 p,.int .i64 m,.slice (some ⟨g,0,none⟩) mod.length c',.int .i64 cols,.slice R rows.length k],.int .i64 0])) w' :=
 ⟨⟨_,_,_,_,_,0,rfl,qbQ rfl,rfl,_,_,_,_,rfl,rfl,rfl,rfl,rfl,hA.lower hlo,hR.lower hlo⟩,hb⟩
theorem rs_apart : ∀ i,i < 7 -> ∀ j,j < i -> (List.range 7).getD i 0 ≠ (List.range 7).getD j 0 := by decide
theorem sh_asc (k : Nat) (hk : k + 1 < (freeC [0] 7).length) : (freeC [0] 7).getD k 0 < (freeC [0] 7).getD (k + 1) 0 := by
 have h : ∀ k,k < 5 -> (freeC [0] 7).getD k 0 < (freeC [0] 7).getD (k + 1) 0 := by decide
 have h6 : (freeC [0] 7).length = 6 := by decide
 exact h k (by omega)
theorem rs_call (Am : Option Addr) (cm : Nat) (Ap : Option Addr) (cp : Nat) (Aq : Option Addr) (cq : Nat) (w : World) (hM : IntsAt w w.heap.size Am md8) (hP : IntsAt w w.heap.size Ap (nz (List.range 7))) (hQ : IntsAt w w.heap.size Aq (nz (List.replicate 7 1))) (hcp : 7 <= cp) :
 Calls Tryz.prog 68 #[.agg #[.int .i64 2,.int .i64 3,.slice Am md8.length cm,.int .i64 3,.slice Ap 7 cp,.slice Aq 7 cq]] w (CdPost w (.ok (.cod 2 3 md8 7 rs8))) := by
 have h := gcode_c 2 3 md8 Am cm 3 (List.range 7) Ap cp (List.replicate 7 1) Aq cq w hM ok8 (by decide) (by decide) hP hQ rfl (by decide) (by decide) hcp (by decide) (by decide) (by decide) (fun i j hj hi => rs_apart i hi j hj) (by decide) e8g
 refine h.mono ?_
 rintro e w' ⟨⟨g,c',R,k,rfl,h1,h2⟩,hb⟩
 exact cdPost_of h1 h2 (by omega) hb
theorem shorten_call (Am : Option Addr) (cm : Nat) (A : Option Addr) (c : Nat) (As : Option Addr) (cs : Nat) (w : World) (hM : IntsAt w w.heap.size Am md8) (hA : RowsAt w w.heap.size A (nzs rs8)) (hS : IntsAt w w.heap.size As [0]) :
 Calls Tryz.prog 121 #[.agg #[.int .i64 2,.int .i64 3,.slice Am md8.length cm,.int .i64 7,.slice A rs8.length c],.slice As 1 cs] w (CdPost w (.ok (.cod 2 3 md8 6 sh8))) := by
 have h := shorten_c 2 3 md8 Am cm 7 rs8 A c 0 As cs 0 w hM (by decide) (by decide) hA hS (by decide) (by decide) (by decide) (by decide) (by rw [rs8_v];decide) z8 sp8 (by decide) (fun k hk => sh_asc k hk) q8 e80 e81 e82 e83 e84 e85 (by decide) e86 (by decide)
 refine h.mono ?_
 rintro e w' ⟨⟨g,c',R,k,rfl,h1,h2⟩,hb⟩
 exact cdPost_of h1 h2 (by omega) hb
def LSa (a w : World) : Prop := Below a.heap.size a w
set_option maxHeartbeats 4000000 in
set_option maxRecDepth 100000 in
theorem alg5_c (g c0 : Nat) (F : Nat -> Prop) (w : World) (hv : ValsAt w F g 3 [.fld 2 3 md8,.num 7,.num 3]) :
 Calls Tryz.prog 105 #[.slice (some ⟨g,0,none⟩) 3 c0] w (CdPost w (.ok (.cod 2 3 md8 7 rs8))) := by
 have HX := Lib.hid (bx1 w #[.int .i64 0,.int .i64 0,.slice none 0 0,.int .i64 0,.slice none 0 0] 35)
 have hk := hv.keep HX.out.below
 obtain ⟨cs,⟨A,c,rfl,hA⟩,hr0⟩ := hk.val 0 _ rfl
 obtain ⟨cs,hc,hr1⟩ := hk.val 1 _ rfl
 have hc : cs = _ := hc
 subst hc
 obtain ⟨cs,hc,hr2⟩ := hk.val 2 _ rfl
 have hc : cs = _ := hc
 subst hc
 have HK := Lib.hid hk
 have HA := Lib.hid hA.at_
 have HR0 := Lib.hid hr0
 have HR1 := Lib.hid hr1
 have HR2 := Lib.hid hr2
 have HWL : Hid ((w.alloc (.cells #[.int .i64 0,.int .i64 0,.slice none 0 0,.int .i64 0,.slice none 0 0] 35)).heap.size = w.heap.size + 1) := by show _ = _;simp
 clear hk hr0 hr1 hr2 hv hA
 go_enter Tryz.func105,Tryz.ntmps105
 go_upto_region 1 with fail
 generalize w.alloc (.cells #[.int .i64 0,.int .i64 0,.slice none 0 0,.int .i64 0,.slice none 0 0] 35) = W0 at *
 have HCV : Hid (∀ W,LSa W0 W -> W.cell? ⟨g,18,none⟩ = some (.int .i64 7) /\ W.cell? ⟨g,28,none⟩ = some (.int .i64 3)) := fun W hW =>
  ⟨(Below.cell hW (p := ⟨g,18,none⟩) HK.out.lt).trans (HR1.out 8 _ rfl),(Below.cell hW (p := ⟨g,28,none⟩) HK.out.lt).trans (HR2.out 8 _ rfl)⟩
 have HRF : Hid (∀ W,LSa W0 W -> W.rangeAt g 0 [.int .i64 2,.int .i64 3,.slice A md8.length c]) := fun W hW => qaJ (fun j u hu => by
  match j,hu with
  | 0,hu => exact HR0.out 0 u hu
  | 1,hu => exact HR0.out 1 u hu
  | 2,hu => exact HR0.out 2 u hu
  | j + 3,hu => simp at hu) (Below.block hW g HK.out.lt)
 have HS0 : Hid (LSa W0 W0.drew) := (Below.refl _ _).drew
 refine qbU 18 17 16 (LSa W0) [(1,0),(1,1),(1,2),(0,3),(1,4),(1,5),(1,6),(0,7),(1,8),(1,9),(1,10),(0,11),(2,12),(1,13),(1,14),(1,15)] [(3,17)] default _ (.cells #[.int .i64 0,.int .i64 0,.slice none 0 0,.int .i64 0,.slice none 0 0,.slice none 0 0] 112) (by kernel_rfl) (by kernel_rfl) (fun _ _ d _ _ h => by cases d <;> exact h) rfl rfl ?_ (fun W h => Below.alloc h (Below.size h) _) HS0.out ?_
 . intro a w
   unfold ptrTo
   go_simp
 simp only [List.map_cons,List.map_nil,List.getD_cons_zero,List.getD_cons_succ]
 iterate 3
  apply qeK rfl
  . intro W
    go_simp
    rfl
  go_simp
 refine qeT rfl 29 (.tmp 9) rfl g 0 rfl [.int .i64 2,.int .i64 3,.slice A md8.length c] _ HRF.out Tryz.underlying29 rfl fieldSize ?_
 go_simp
 iterate 2
  iterate 3
   apply qeK rfl
   . intro W
     go_simp
     rfl
   go_simp
  apply x_val rfl
  . intro W hW
    obtain ⟨z0,z1⟩ := HCV.out W hW
    go_simp
    rfl
  go_simp
 apply x_call rfl
 . intro W
   go_simp
   exact ⟨rfl,rfl⟩
 intro W1 hW1 hS1
 have hst := gstd_c 2 3 md8 A c 7 3 W1 ((HA.out.keep hS1).more (Below.size hS1)) ok8 (by decide) (by decide) (by decide) (by decide) (by decide) (by decide) (by decide)
 refine hst.mono ?_
 rintro e w2 ⟨⟨g2,c2,P,cp,M,cq,rfl,hcp,hF,hP,hM⟩,hb2⟩
 refine ⟨_,rfl,Below.trans hS1 (hb2.mono (Below.size hS1)),hb2,?_⟩
 go_simp
 have HF := Lib.hid hF
 have HP := Lib.hid hP
 have HM := Lib.hid hM
 have hs1 : W0.heap.size <= W1.heap.size := Below.size hS1
 clear hst hF hP hM
 iterate 3
  apply qeK rfl
  . intro W
    go_simp
    rfl
  go_simp
 refine x_nil ?_
 intro W3 b9 hW3 hS3 hlo hFF hb
 have HBB := Lib.hid hb
 have HB5 : Hid (Below W0.heap.size W0 (W3.setRow b9 #[.int .i64 2,.int .i64 3,.slice (some ⟨g2,0,none⟩) md8.length c2,.int .i64 3,.slice P 7 cp,.slice M 7 cq])) := qaD hS3 hlo _
 have HKY : Hid ((W3.setRow b9 #[.int .i64 2,.int .i64 3,.slice (some ⟨g2,0,none⟩) md8.length c2,.int .i64 3,.slice P 7 cp,.slice M 7 cq]).heap[b9]? = some (.cells #[.int .i64 2,.int .i64 3,.slice (some ⟨g2,0,none⟩) md8.length c2,.int .i64 3,.slice P 7 cp,.slice M 7 cq] 112 (0,0))) := qaF _ _ _ _ _ hb
 have hFF' : ¬ (W1.heap.size <= b9 /\ b9 < w2.heap.size) := hFF
 have HF5 : Hid (IntsUp (W3.setRow b9 #[.int .i64 2,.int .i64 3,.slice (some ⟨g2,0,none⟩) md8.length c2,.int .i64 3,.slice P 7 cp,.slice M 7 cq]) W1.heap.size (some ⟨g2,0,none⟩) md8) := qeX HF.out hFF' hW3 (Nat.le_refl _) _
 have HP5 : Hid (IntsUp (W3.setRow b9 #[.int .i64 2,.int .i64 3,.slice (some ⟨g2,0,none⟩) md8.length c2,.int .i64 3,.slice P 7 cp,.slice M 7 cq]) W1.heap.size P (nz (List.range 7))) := qeX HP.out hFF' hW3 (Nat.le_refl _) _
 have HM5 : Hid (IntsUp (W3.setRow b9 #[.int .i64 2,.int .i64 3,.slice (some ⟨g2,0,none⟩) md8.length c2,.int .i64 3,.slice P 7 cp,.slice M 7 cq]) W1.heap.size M (nz (List.replicate 7 1))) := qeX HM.out hFF' hW3 (Nat.le_refl _) _
 refine qcL rfl 112 (.tmp 4) (.tmp 20) rfl b9 112 #[.int .i64 0,.int .i64 0,.slice none 0 0,.int .i64 0,.slice none 0 0,.slice none 0 0] #[.int .i64 2,.int .i64 3,.slice (some ⟨g2,0,none⟩) md8.length c2,.int .i64 3,.slice P 7 cp,.slice M 7 cq] rfl rfl HBB.out grsSize rfl (by simp [Value.oneCell']) ?_
 go_simp
 refine qbX ?_
 clear hW1 hS1 hb2 hW3 hS3 hlo hFF hFF' hb HBB HF HP HM HRF HCV HS0 HR0 HR1 HR2 HK HA
 generalize (W3.setRow b9 #[.int .i64 2,.int .i64 3,.slice (some ⟨g2,0,none⟩) md8.length c2,.int .i64 3,.slice P 7 cp,.slice M 7 cq]) = W5 at *
 have HX5 := Lib.hid (HX.out.keep HB5.out)
 have HRS : Hid (Calls Tryz.prog 68 #[.agg #[.int .i64 2,.int .i64 3,.slice (some ⟨g2,0,none⟩) md8.length c2,.int .i64 3,.slice P 7 cp,.slice M 7 cq]] W5 (CdPost W5 (.ok (.cod 2 3 md8 7 rs8)))) := rs_call _ _ _ _ _ _ W5 HF5.out.ints HP5.out.ints HM5.out.ints hcp
 have HRG : Hid (W5.rangeAt b9 0 [.int .i64 2,.int .i64 3,.slice (some ⟨g2,0,none⟩) md8.length c2,.int .i64 3,.slice P 7 cp,.slice M 7 cq]) := qaB HKY.out
 go_wp2_with (refine wpList_load_mid rfl 112 (.tmp 4) rfl b9 0 rfl [.int .i64 2,.int .i64 3,.slice (some ⟨g2,0,none⟩) md8.length c2,.int .i64 3,.slice P 7 cp,.slice M 7 cq] _ HRG.out Tryz.underlying112 rfl grsSize ?_)
 refine HRS.out.mono ?_
 rintro e w6 ⟨⟨v0,v1,v2,v3,v4,k,rfl,hone,hcd⟩,hb6⟩
 have hk : k = 0 := hcd.1
 subst hk
 have HCD := Lib.hid hcd
 have HX6 := Lib.hid (HX5.out.keep hb6)
 have HK6 : Hid (w6.heap[w.heap.size]? = some (.cells #[.int .i64 0,.int .i64 0,.slice none 0 0,.int .i64 0,.slice none 0 0] 35 (0,0))) := HX6.out.at_ (i := 0) rfl
 have hw5 : w.heap.size < W5.heap.size := by have := HB5.out.size;have := HWL.out;omega
 have h1 : (#[v0,v1,v2,v3,v4].all fun v : Value => v.oneCell') = true := by
  have h2 := hone
  simp only [List.mem_cons,forall_eq_or_imp,List.not_mem_nil,false_implies,implies_true,and_true] at h2
  simp [h2]
 clear hb6 hcd HRS HKY HRG HX5 HX
 go_wp2_with (refine qaA rfl 35 (.tmp 2) (.tmp 28) rfl _ w.heap.size 35 #[.int .i64 0,.int .i64 0,.slice none 0 0,.int .i64 0,.slice none 0 0] #[v0,v1,v2,v3,v4] rfl rfl HK6.out codeSize rfl h1 ?_)
 refine bodyPost_ret (qaE (P := Tryz.prog) rfl _ _ w.heap.size 35 #[v0,v1,v2,v3,v4] (0,0) _ _ rfl rfl (qaF w6 w.heap.size _ _ _ HK6.out) Tryz.underlying35 rfl codeSize) rfl ?_
 obtain ⟨_,A',c',R',kk',e0,e1,e2,e3,e4,hA',hR'⟩ := HCD.out
 refine ⟨⟨v0,v1,v2,v3,v4,0,rfl,hone,rfl,A',c',R',kk',e0,e1,e2,e3,e4,?_,?_⟩,qaD HX6.out.below (Nat.le_refl _) _⟩
 . exact (hA'.of_blocks (by simp) (fun k hk _ => setRow_other _ _ _ _ (by omega))).lower (by omega)
 . exact (hR'.setRow (by omega) _).lower (by omega)
set_option maxHeartbeats 4000000 in
set_option maxRecDepth 100000 in
theorem chosen_c1 (g c0 b1 : Nat) (F : Nat -> Prop) (w : World) (hv : ValsAt w F g 2 [.cod 2 3 md8 7 rs8,.lst [0]]) (hc : Cap w b1 (.func (.func 121) #[] #[]) 144) :
 Calls Tryz.prog 189 #[.slice (some ⟨g,0,none⟩) 2 c0,.pointer (some ⟨b1,0,none⟩)] w (CdPost w (.ok (.cod 2 3 md8 6 sh8))) := by
 have HX := Lib.hid (bx1 w #[.int .i64 0,.int .i64 0,.slice none 0 0,.int .i64 0,.slice none 0 0] 35)
 have HC := Lib.hid (hc.keep HX.out.below)
 have hk := hv.keep HX.out.below
 obtain ⟨cs,⟨A,c,R,k,rfl,hA,hR⟩,hr0⟩ := hk.val 0 _ rfl
 obtain ⟨cs,⟨A1,c1,rfl,hA1⟩,hr1⟩ := hk.val 1 _ rfl
 have HK := Lib.hid hk
 have HA := Lib.hid hA.at_
 have HRR := Lib.hid hR.at_
 have HA1 := Lib.hid hA1.at_
 have HR0 := Lib.hid hr0
 have HR1 := Lib.hid hr1
 have HWL : Hid ((w.alloc (.cells #[.int .i64 0,.int .i64 0,.slice none 0 0,.int .i64 0,.slice none 0 0] 35)).heap.size = w.heap.size + 1) := by show _ = _;simp
 have hcf : ∀ (xs : Array Value) (w : World),(callFunc 121 xs).run Tryz.prog w = .ok (.enter 121 xs) w := fun xs w => by kernel_rfl
 clear hk hr0 hr1 hv hA hR hA1 hc
 go_enter Tryz.func189,Tryz.ntmps189
 go_upto_region 1 with fail
 generalize w.alloc (.cells #[.int .i64 0,.int .i64 0,.slice none 0 0,.int .i64 0,.slice none 0 0] 35) = W0 at *
 have HCV : Hid (∀ W,LSa W0 W -> W.cell? ⟨b1,0,none⟩ = some (.func (.func 121) #[] #[]) /\ W.cell? ⟨g,19,none⟩ = some (.slice A1 1 c1)) := fun W hW =>
  ⟨cell_of_one (HC.out.keep hW),(Below.cell hW (p := ⟨g,19,none⟩) HK.out.lt).trans (HR1.out 9 _ rfl)⟩
 have HRF : Hid (∀ W,LSa W0 W -> W.rangeAt g 3 [.int .i64 2,.int .i64 3,.slice A md8.length c,.int .i64 7,.slice R rs8.length k]) := fun W hW => qaJ (fun j u hu => by
  match j,hu with
  | 0,hu => exact HR0.out 3 u hu
  | 1,hu => exact HR0.out 4 u hu
  | 2,hu => exact HR0.out 5 u hu
  | 3,hu => exact HR0.out 6 u hu
  | 4,hu => exact HR0.out 7 u hu
  | j + 5,hu => simp at hu) (Below.block hW g HK.out.lt)
 have HS0 : Hid (LSa W0 W0.drew) := (Below.refl _ _).drew
 refine qaZ 12 12 (LSa W0) [(0,0),(1,1),(1,2),(1,3),(0,4),(1,5),(1,6),(1,7),(0,8),(2,9),(1,10),(1,11)] default (by kernel_rfl) (by kernel_rfl) (fun _ _ d _ _ h => by cases d <;> exact h) HS0.out ?_
 simp only [List.map_cons,List.map_nil,List.getD_cons_zero,List.getD_cons_succ]
 apply qbH rfl
 . intro W hW
   obtain ⟨z0,z1⟩ := HCV.out W hW
   go_simp
   rfl
 go_simp
 iterate 3
  apply qaQ rfl
  . intro W
    go_simp
    rfl
  go_simp
 refine qaP rfl 35 (.tmp 8) rfl g 3 rfl [.int .i64 2,.int .i64 3,.slice A md8.length c,.int .i64 7,.slice R rs8.length k] _ HRF.out Tryz.underlying35 rfl codeSize ?_
 go_simp
 iterate 3
  apply qaQ rfl
  . intro W
    go_simp
    rfl
  go_simp
 apply qbH rfl
 . intro W hW
   obtain ⟨z0,z1⟩ := HCV.out W hW
   go_simp
   rfl
 go_simp
 apply qbF rfl
 . go_simp
   exact ⟨rfl,rfl⟩
 have hsc := shorten_call A c R k A1 c1 W0.drew ((HA.out.keep HS0.out).more (Below.size HS0.out)) ((HRR.out.keep HS0.out).more (Below.size HS0.out)) ((HA1.out.keep HS0.out).more (Below.size HS0.out))
 refine hsc.mono ?_
 rintro e w6 ⟨⟨v0,v1,v2,v3,v4,kz,rfl,hone,hcd⟩,hb6⟩
 have hkz : kz = 0 := hcd.1
 subst hkz
 have HCD := Lib.hid hcd
 have HS6 : Hid (LSa W0 w6) := Below.trans HS0.out (hb6.mono (Below.size HS0.out))
 refine ⟨_,rfl,HS6.out,?_⟩
 go_simp
 iterate 2
  apply qaQ rfl
  . intro W
    go_simp
    rfl
  go_simp
 refine qbX ?_
 have HX6 := Lib.hid (HX.out.keep HS6.out)
 have HK6 : Hid (w6.heap[w.heap.size]? = some (.cells #[.int .i64 0,.int .i64 0,.slice none 0 0,.int .i64 0,.slice none 0 0] 35 (0,0))) := HX6.out.at_ (i := 0) rfl
 have hw5 : w.heap.size < W0.drew.heap.size := by show w.heap.size < W0.heap.size;have := HWL.out;omega
 have h1 : (#[v0,v1,v2,v3,v4].all fun v : Value => v.oneCell') = true := by
  have h2 := hone
  simp only [List.mem_cons,forall_eq_or_imp,List.not_mem_nil,false_implies,implies_true,and_true] at h2
  simp [h2]
 clear hb6 hcd hsc HX HRF HCV HS0 HC HA HRR HA1 HR0 HR1
 show wpList _ _ _ _ _ _
 go_simp
 go_wp2_with (refine qaA rfl 35 (.tmp 3) (.tmp 15) rfl _ w.heap.size 35 #[.int .i64 0,.int .i64 0,.slice none 0 0,.int .i64 0,.slice none 0 0] #[v0,v1,v2,v3,v4] rfl rfl HK6.out codeSize rfl h1 ?_)
 refine bodyPost_ret (qaE (P := Tryz.prog) rfl _ _ w.heap.size 35 #[v0,v1,v2,v3,v4] (0,0) _ _ rfl rfl (qaF w6 w.heap.size _ _ _ HK6.out) Tryz.underlying35 rfl codeSize) rfl ?_
 obtain ⟨_,A',c',R',kk',e0,e1,e2,e3,e4,hA',hR'⟩ := HCD.out
 refine ⟨⟨v0,v1,v2,v3,v4,0,rfl,hone,rfl,A',c',R',kk',e0,e1,e2,e3,e4,?_,?_⟩,qaD HX6.out.below (Nat.le_refl _) _⟩
 . exact (hA'.of_blocks (by simp) (fun k hk _ => setRow_other _ _ _ _ (by omega))).lower (by omega)
 . exact (hR'.setRow (by omega) _).lower (by omega)
end Go.Proofs.YtaddcadapbpkfaaGreatDoor
namespace Go.Proofs.YtaddcadapbpkfaaGreatDoor
open Go.RowKit Pln
def rsN : List UInt8 := [114,115]
def shN : List UInt8 := [115,104,111,114,116,101,110]
def duN : List UInt8 := [100,117,97,108]
def numE (n : Int) : E := .mk 1 [] n [] []
def gfE : E := .mk 3 gfN 0 [] [numE 8]
def rsE : E := .mk 3 rsN 0 [] [gfE,numE 7,numE 3]
def shE : E := .mk 3 shN 0 [] [rsE,.mk 2 [] 0 [0] []]
def duE : E := .mk 3 duN 0 [] []
def S1 : Sem := fun nm vs => if nm = gfN then S0 gfN vs else if nm = rsN then .ok (.cod 2 3 md8 7 rs8) else .ok (.cod 2 3 md8 6 sh8)
def L1 : LSem := fun nm _ ds => if nm = rsN then 5 else ds.getD 0 0
theorem row_gf : rowM 3 gfN 1 true = .ok [78] := by kernel_rfl
theorem row_rs : rowM 3 rsN 3 false = .ok [70,78,78] := by kernel_rfl
theorem row_sh : rowM 3 shN 2 false = .ok [67,76] := by kernel_rfl
theorem row_du : rowM 3 duN 0 false = .error 16 := by kernel_rfl
theorem mL_gf : meanL S1 [numE 8] [78] = .ok [.num 8] := by kernel_rfl
theorem mean_gf : meanM S1 gfE true = .ok (.fld 2 3 md8) := by
 unfold gfE
 rw [mean0_ok row_gf,mL_gf]
 show fldRes (stdM 8) = _
 rw [std8]
 rfl
theorem mL_rs : meanL S1 [gfE,numE 7,numE 3] [70,78,78] = .ok [.fld 2 3 md8,.num 7,.num 3] := by
 rw [qcH]
 have h1 : argM S1 gfE 70 = .ok (.fld 2 3 md8) := by
  unfold argM
  rw [if_pos (.inl rfl)]
  exact mean_gf
 rw [h1]
 have h2 : meanL S1 [numE 7,numE 3] [78,78] = .ok [.num 7,.num 3] := by kernel_rfl
 rw [h2]
theorem mean_rs : meanM S1 rsE false = .ok (.cod 2 3 md8 7 rs8) := by
 unfold rsE
 rw [mean0_ok row_rs,mL_rs]
 rfl
theorem mL_sh : meanL S1 [rsE,.mk 2 [] 0 [0] []] [67,76] = .ok [.cod 2 3 md8 7 rs8,.lst [0]] := by
 rw [qcH]
 have h1 : argM S1 rsE 67 = .ok (.cod 2 3 md8 7 rs8) := by
  unfold argM
  rw [if_pos (.inr rfl)]
  exact mean_rs
 rw [h1]
 have h2 : meanL S1 [.mk 2 [] 0 [0] []] [76] = .ok [.lst [0]] := by kernel_rfl
 rw [h2]
theorem mean_sh : meanM S1 shE false = .ok (.cod 2 3 md8 6 sh8) := by
 unfold shE
 rw [mean0_ok row_sh,mL_sh]
 rfl
theorem mean_du : meanM S1 duE false = .error 16 := mean0_err row_du
theorem args_rs : argsK rsN = some [70,78,78] := by kernel_rfl
theorem args_sh : argsK shN = some [67,76] := by kernel_rfl
theorem low_eq {nm : List UInt8} {n : Int} {ls : List Int} {k : Int} {xs : List E} {ks : List UInt8} {vs : List VM} (ha : argsK nm = some ks) (hm : meanL S1 xs ks = .ok vs) : lowM S1 L1 (.mk k nm n ls xs) = lowRes (S1 nm vs) (L1 nm vs (lowL S1 L1 xs ks)) := by
 conv => lhs;unfold lowM
 rw [ha]
 show (match meanL S1 xs ks with | .error _ => -1 | .ok vs => lowRes (S1 nm vs) (L1 nm vs (lowL S1 L1 xs ks))) = _
 rw [hm]
theorem low_rs : lowM S1 L1 rsE = 5 := by
 unfold rsE
 rw [low_eq args_rs mL_rs]
 show (if genLen (.cod 2 3 md8 7 rs8) = 0 then (-1 : Int) else 5) = 5
 rw [if_neg (by show ¬ rs8.length = 0;rw [rs8_v];decide)]
theorem ll_sh : lowL S1 L1 [rsE,.mk 2 [] 0 [0] []] [67,76] = [5,0] := by
 unfold lowL
 rw [if_pos rfl,low_rs]
 rfl
theorem low_sh : lowM S1 L1 shE = 5 := by
 unfold shE
 rw [low_eq args_sh mL_sh,ll_sh]
 show (if genLen (.cod 2 3 md8 6 sh8) = 0 then (-1 : Int) else L1 shN [.cod 2 3 md8 7 rs8,.lst [0]] [5,0]) = 5
 rw [if_neg (by show ¬ sh8.length = 0;rw [sh8_v];decide)]
 unfold L1
 rw [if_neg (by decide)]
 rfl
theorem rowT_rs : ∀ d ∈ rowT,d.k = ⟨rsN.toArray⟩ -> d.mid = 105 /\ d.inn = none /\ d.low = 106 /\ d.lc = false := by decide +kernel
theorem rowT_sh : ∀ d ∈ rowT,d.k = ⟨shN.toArray⟩ -> d.mid = 189 /\ d.inn = some (121,144) /\ d.low = 117 /\ d.lc = false := by decide +kernel
theorem callA5 : ∀ (xs : Array Value) (w : World),(callFunc 105 xs).run Tryz.prog w = .ok (.enter 105 xs) w := fun xs w => by kernel_rfl
theorem callCh : ∀ (xs : Array Value) (w : World),(callFunc 189 xs).run Tryz.prog w = .ok (.enter 189 xs) w := fun xs w => by kernel_rfl
theorem callCR : ∀ (xs : Array Value) (w : World),(callFunc 183 xs).run Tryz.prog w = .ok (.enter 183 xs) w := fun xs w => by kernel_rfl
theorem callA6 : ∀ (xs : Array Value) (w : World),(callFunc 106 xs).run Tryz.prog w = .ok (.enter 106 xs) w := fun xs w => by kernel_rfl
theorem callFi : ∀ (xs : Array Value) (w : World),(callFunc 117 xs).run Tryz.prog w = .ok (.enter 117 xs) w := fun xs w => by kernel_rfl
theorem row_agg {w : World} {nm ks : List UInt8} {v1 v2 : Value} (h : RowIs w nm ks v1 v2) (hg : nm ≠ gfN) : ∃ d ∈ rowT,d.k = ⟨nm.toArray⟩ /\ ∃ (b : Nat) (cs : Array Value),v1 = .func (.func 183) #[] #[.pointer (some ⟨b,0,none⟩)] /\ v2 = .func (.func d.low) #[] (if d.lc = true then cs else #[]) /\
 Cap w b (.func (.func d.mid) #[] cs) 134 /\ CapOf w cs d.inn := by
 rcases h with ⟨h,_⟩ | ⟨_,i,d,hd,hdk,b,cs,hag,hc1,hc2⟩
 . exact absurd h hg
 . injection hag with hag
   have hx := congrArg Array.toList hag
   simp only [List.cons.injEq,and_true] at hx
   exact ⟨d,List.mem_of_getElem? hd,hdk,b,cs,hx.2.1,hx.2.2,hc1,hc2⟩
theorem rs_ct : RowCt rsN [70,78,78] [.fld 2 3 md8,.num 7,.num 3] (.ok (.cod 2 3 md8 7 rs8)) := by
 intro w F g v1 v2 hri hv
 obtain ⟨d,hd,hdk,b,cs,rfl,rfl,hc,hci⟩ := row_agg hri (by decide)
 obtain ⟨h1,h2,_,_⟩ := rowT_rs d hd hdk
 rw [h2] at hci
 have hci : cs = #[] := hci
 subst hci
 rw [h1] at hc
 exact ⟨_,b,rfl,callCR,codeRow1_c 105 b #[] _ _ F w callA5 hc fun W hW => alg5_c g 3 F W (hv.keep hW)⟩
theorem sh_ct : RowCt shN [67,76] [.cod 2 3 md8 7 rs8,.lst [0]] (.ok (.cod 2 3 md8 6 sh8)) := by
 intro w F g v1 v2 hri hv
 obtain ⟨d,hd,hdk,b,cs,rfl,rfl,hc,hci⟩ := row_agg hri (by decide)
 obtain ⟨h1,h2,_,_⟩ := rowT_sh d hd hdk
 rw [h2] at hci
 obtain ⟨b1,rfl,hcap⟩ := hci
 rw [h1] at hc
 exact ⟨_,b,rfl,callCR,codeRow1_c 189 b _ _ _ F w callCh hc fun W hW => chosen_c1 g 2 b1 F W (hv.keep hW) (hcap.keep hW)⟩
theorem sup_gf : SupE S1 gfE true := by
 unfold gfE SupE
 intro ks hk
 rw [show [numE 8].length = 1 from rfl,row_gf] at hk
 injection hk with hk
 subst hk
 refine ⟨supL_lit (litK_of (m := 1) (.inl ⟨rfl,rfl⟩)),fun vs hvs => ?_⟩
 have h := gf_ct (xs := [numE 8]) (ks := [78]) (vs := vs) (.inl ⟨rfl,rfl⟩) (fun x hx => by simp at hx;subst hx;decide) hvs
 exact h
theorem sup_rs : SupE S1 rsE false := by
 unfold rsE SupE
 intro ks hk
 rw [show [gfE,numE 7,numE 3].length = 3 from rfl,row_rs] at hk
 injection hk with hk
 subst hk
 refine ⟨?_,fun vs hvs => ?_⟩
 . unfold SupL
   exact ⟨fun _ => sup_gf,supL_lit (fun kd h => by simp at h;exact .inl h)⟩
 . rw [mL_rs] at hvs
   injection hvs with hvs
   subst hvs
   exact rs_ct
theorem sup_sh : SupE S1 shE false := by
 unfold shE SupE
 intro ks hk
 rw [show [rsE,E.mk 2 [] 0 [0] []].length = 2 from rfl,row_sh] at hk
 injection hk with hk
 subst hk
 refine ⟨?_,fun vs hvs => ?_⟩
 . unfold SupL
   exact ⟨fun _ => sup_rs,supL_lit (fun kd h => by simp at h;exact .inr h)⟩
 . rw [mL_sh] at hvs
   injection hvs with hvs
   subst hvs
   exact sh_ct
theorem sup_du : SupE S1 duE false := by
 unfold duE SupE
 intro ks hk
 rw [show ([] : List E).length = 0 from rfl,row_du] at hk
 cases hk
set_option maxHeartbeats 4000000 in
set_option maxRecDepth 100000 in
theorem alg6_c (g c0 h ch ll : Nat) (cs : List Value) (F : Nat -> Prop) (w : World) (hv : ValsAt w F g 3 [.fld 2 3 md8,.num 7,.num 3]) :
 Calls Tryz.prog 106 #[.slice (some ⟨g,0,none⟩) 3 c0,.slice (some ⟨h,0,none⟩) ll ch,.agg cs.toArray] w fun e w' => e = .returned (.int .i64 5) /\ Below w.heap.size w w' := by
 have hb : Below w.heap.size w (w.alloc (.cells cs.toArray 35)) := (Below.refl _ _).alloc (Nat.le_refl _) _
 have hk := hv.keep hb
 obtain ⟨cs1,hc,hr1⟩ := hk.val 1 _ rfl
 have hc : cs1 = _ := hc
 subst hc
 obtain ⟨cs2,hc,hr2⟩ := hk.val 2 _ rfl
 have hc : cs2 = _ := hc
 subst hc
 have HB := Lib.hid hb
 have HK := Lib.hid hk
 have HR1 := Lib.hid hr1
 have HR2 := Lib.hid hr2
 clear hk hr1 hr2 hv hb
 go_enter Tryz.func106,Tryz.ntmps106
 go_upto_region 1 with fail
 generalize w.alloc (.cells cs.toArray 35) = W0 at *
 have HCV : Hid (∀ W,LSa W0 W -> W.cell? ⟨g,18,none⟩ = some (.int .i64 7) /\ W.cell? ⟨g,28,none⟩ = some (.int .i64 3)) := fun W hW =>
  ⟨(Below.cell hW (p := ⟨g,18,none⟩) HK.out.lt).trans (HR1.out 8 _ rfl),(Below.cell hW (p := ⟨g,28,none⟩) HK.out.lt).trans (HR2.out 8 _ rfl)⟩
 have HS0 : Hid (LSa W0 W0.drew) := (Below.refl _ _).drew
 refine qaZ 8 8 (LSa W0) [(1,0),(1,1),(1,2),(0,3),(1,4),(1,5),(1,6),(0,7)] default (by kernel_rfl) (by kernel_rfl) (fun _ _ d _ _ h => by cases d <;> exact h) HS0.out ?_
 simp only [List.map_cons,List.map_nil,List.getD_cons_zero,List.getD_cons_succ]
 iterate 2
  iterate 3
   apply qaQ rfl
   . intro W
     go_simp
     rfl
   go_simp
  apply qbH rfl
  . intro W hW
    obtain ⟨z0,z1⟩ := HCV.out W hW
    go_simp
    rfl
  go_simp
 refine qbX ?_
 have HBD : Hid (Below w.heap.size w W0.drew) := HB.out.drew
 clear HS0 HCV HR1 HR2 HK HB
 show wpList _ _ _ _ _ _
 go_simp
 go_wp2_with fail
 go_ret
 exact ⟨rfl,HBD.out⟩
set_option maxHeartbeats 4000000 in
set_option maxRecDepth 100000 in
theorem first_c (A : Option Addr) (al ac h ch : Nat) (d0 : Int) (ds : List Int) (cs : List Value) (w : World) (hd : IntsAt w w.heap.size (some ⟨h,0,none⟩) (d0 :: ds)) :
 Calls Tryz.prog 117 #[.slice A al ac,.slice (some ⟨h,0,none⟩) (d0 :: ds).length ch,.agg cs.toArray] w fun e w' => e = .returned (.int .i64 d0) /\ Below w.heap.size w w' := by
 have hb : Below w.heap.size w (w.alloc (.cells cs.toArray 35)) := (Below.refl _ _).alloc (Nat.le_refl _) _
 obtain ⟨b,o,e,hlt,hc⟩ := hd (by simp)
 injection e with e
 injection e with e1 e2
 subst e1 e2
 have h0 := hc 0 (by simp)
 have c0 := (hb.cell (p := ⟨h,0 + 0,none⟩) hlt).trans h0
 have c0 : (w.alloc (.cells cs.toArray 35)).cell? ⟨h,0,none⟩ = some (.int .i64 d0) := c0
 have HB := Lib.hid hb
 have hl : (0 : Int) < ((d0 :: ds).length : Int) := by simp only [List.length_cons];omega
 generalize (d0 :: ds).length = n at *
 clear hd h0 hc hb hlt
 go_enter Tryz.func117,Tryz.ntmps117
 go_wp2_with fail
 go_ret
 exact ⟨rfl,HB.out⟩
theorem rs_lw (ds : List Int) : RowLw rsN [70,78,78] [.fld 2 3 md8,.num 7,.num 3] ds (.cod 2 3 md8 7 rs8) 5 := by
 intro w F g h v1 v2 cs hri hv hd hc
 obtain ⟨d,hdm,hdk,b,caps,rfl,rfl,_,_⟩ := row_agg hri (by decide)
 obtain ⟨_,_,h3,h4⟩ := rowT_rs d hdm hdk
 refine ⟨d.low,by rw [h4];rfl,?_,?_⟩
 . rw [h3];exact callA6
 . rw [h3]
   exact alg6_c g 3 h ds.length ds.length _ F w hv
theorem sh_lw : RowLw shN [67,76] [.cod 2 3 md8 7 rs8,.lst [0]] [5,0] (.cod 2 3 md8 6 sh8) 5 := by
 intro w F g h v1 v2 cs hri hv hd hc
 obtain ⟨d,hdm,hdk,b,caps,rfl,rfl,_,_⟩ := row_agg hri (by decide)
 obtain ⟨_,_,h3,h4⟩ := rowT_sh d hdm hdk
 refine ⟨d.low,by rw [h4];rfl,?_,?_⟩
 . rw [h3];exact callFi
 . rw [h3]
   exact first_c _ 2 2 h 2 5 [0] _ w hd
theorem low_e_rs : LowE S1 L1 rsE := by
 unfold rsE LowE
 intro ks hk
 rw [show [gfE,numE 7,numE 3].length = 3 from rfl,row_rs] at hk
 injection hk with hk
 subst hk
 refine ⟨?_,fun vs v hvs hv _ => ?_⟩
 . unfold LowLs LowLs LowLs LowLs
   exact ⟨fun h => absurd h (by decide),fun h => absurd h (by decide),fun h => absurd h (by decide),trivial⟩
 . rw [mL_rs] at hvs
   injection hvs with hvs
   subst hvs
   have hv : Except.ok (VM.cod 2 3 md8 7 rs8) = Except.ok v := hv
   injection hv with hv
   subst hv
   exact rs_lw _
theorem low_e_sh : LowE S1 L1 shE := by
 unfold shE LowE
 intro ks hk
 rw [show [rsE,E.mk 2 [] 0 [0] []].length = 2 from rfl,row_sh] at hk
 injection hk with hk
 subst hk
 refine ⟨?_,fun vs v hvs hv _ => ?_⟩
 . unfold LowLs LowLs LowLs
   exact ⟨fun _ => low_e_rs,fun h => absurd h (by decide),trivial⟩
 . rw [mL_sh] at hvs
   injection hvs with hvs
   subst hvs
   have hv : Except.ok (VM.cod 2 3 md8 6 sh8) = Except.ok v := hv
   injection hv with hv
   subst hv
   rw [ll_sh]
   exact sh_lw
end Go.Proofs.YtaddcadapbpkfaaGreatDoor
