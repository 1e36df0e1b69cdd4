/-
  compile: the functions that make a row of the table.
-/
import Derived.Test.YtaddcadapbpkfaaGreatDoorQ04
import Derived.Test.YtaddcadapbpkfaaGreatDoorQ17
namespace Go.Proofs.YtaddcadapbpkfaaGreatDoor
open Go.RowKit

theorem callSize : (Tryz.prog.info? 90).map (·.size) = some 3 := by kernel_rfl
def Cap (w : World) (b : Nat) (v : Value) (t : TypeId) : Prop := w.heap[b]? = some (.cells #[v] t (0,0))
theorem Cap.keep {w w' : World} {b : Nat} {v : Value} {t : TypeId} (h : Cap w b v t) (hb : Below w.heap.size w w') : Cap w' b v t := (hb.block b (Array.getElem?_eq_some_iff.1 h).1).trans h

set_option maxHeartbeats 1000000 in
set_option maxRecDepth 100000 in
theorem codeRow_c (a : ByteArray) (fm : Fn) (am cm : Array Value) (fl : Fn) (al cl : Array Value) (w : World) :
    Calls Tryz.prog 90 #[.string a,.func fm am cm,.func fl al cl] w fun e w' => (∃ b,e = .returned (.agg #[.string a,.func (.func 183) #[] #[.pointer (some ⟨b,0,none⟩)],.func fl al cl]) /\ Cap w' b (.func fm am cm) 134) /\ Below w.heap.size w w' := by
  have hmf : ∀ (fn : Fn) (first cap : Array Value) (w : World),(Instr.makeFunc fn first cap).run Tryz.prog w = .ok (.func fn first cap) w := fun _ _ _ _ => rfl
  have HX := Lib.hid (bx2 w #[.func fm am cm] #[.string ⟨#[]⟩,.nilFunc,.nilFunc] 134 90)
  have hs : ((w.alloc (.cells #[.func fm am cm] 134)).alloc (.cells #[.string ⟨#[]⟩,.nilFunc,.nilFunc] 90)).heap.size = w.heap.size + 2 := by simp
  have HS := Lib.hid hs
  clear hs
  go_enter Tryz.func90,Tryz.ntmps90
  go_upto_region 1 with fail
  generalize (w.alloc (.cells #[.func fm am cm] 134)).alloc (.cells #[.string ⟨#[]⟩,.nilFunc,.nilFunc] 90) = W at *
  have k1 := HX.out.at_ (i := 1) rfl
  have HKY : Hid ((W.setRow (w.heap.size + 1) #[.string a,.func (.func 183) #[] #[.pointer (some ⟨w.heap.size,0,none⟩)],.func fl al cl]).heap[w.heap.size + 1]? = some (.cells #[.string a,.func (.func 183) #[] #[.pointer (some ⟨w.heap.size,0,none⟩)],.func fl al cl] 90 (0,0))) := setRow_same _ _ _ _ _ k1
  have HK1 := Lib.hid k1
  clear k1
  go_wp2_with (refine wpList_store_row rfl 90 (.tmp 6) (.tmp 10) rfl W (w.heap.size + 1) 90 #[.string ⟨#[]⟩,.nilFunc,.nilFunc] #[.string a,.func (.func 183) #[] #[.pointer (some ⟨w.heap.size,0,none⟩)],.func fl al cl] rfl rfl HK1.out callSize rfl (by simp [Value.oneCell']) ?_)
  refine bodyPost_ret (results_cell_row (P := Tryz.prog) rfl _ _ (w.heap.size + 1) 90 #[.string a,.func (.func 183) #[] #[.pointer (some ⟨w.heap.size,0,none⟩)],.func fl al cl] (0,0) _ rfl HKY.out Tryz.underlying90 rfl callSize) rfl ?_
  exact ⟨⟨w.heap.size,rfl,(setRow_other _ _ _ _ (by omega)).trans (HX.out.at_ (i := 0) rfl)⟩,below_setRow HX.out.below (by omega) _⟩

set_option maxHeartbeats 1000000 in
set_option maxRecDepth 100000 in
theorem fieldRow_c (a : ByteArray) (fm : Fn) (am cm : Array Value) (w : World) :
    Calls Tryz.prog 45 #[.string a,.func fm am cm] w fun e w' => (∃ b,e = .returned (.agg #[.string a,.func (.func 81) #[] #[.pointer (some ⟨b,0,none⟩)],.nilFunc]) /\ Cap w' b (.func fm am cm) 94) /\ Below w.heap.size w w' := by
  have hmf : ∀ (fn : Fn) (first cap : Array Value) (w : World),(Instr.makeFunc fn first cap).run Tryz.prog w = .ok (.func fn first cap) w := fun _ _ _ _ => rfl
  have HX := Lib.hid (bx2 w #[.func fm am cm] #[.string ⟨#[]⟩,.nilFunc,.nilFunc] 94 90)
  have hs : ((w.alloc (.cells #[.func fm am cm] 94)).alloc (.cells #[.string ⟨#[]⟩,.nilFunc,.nilFunc] 90)).heap.size = w.heap.size + 2 := by simp
  have HS := Lib.hid hs
  clear hs
  go_enter Tryz.func45,Tryz.ntmps45
  go_upto_region 1 with fail
  generalize (w.alloc (.cells #[.func fm am cm] 94)).alloc (.cells #[.string ⟨#[]⟩,.nilFunc,.nilFunc] 90) = W at *
  have k1 := HX.out.at_ (i := 1) rfl
  have HKY : Hid ((W.setRow (w.heap.size + 1) #[.string a,.func (.func 81) #[] #[.pointer (some ⟨w.heap.size,0,none⟩)],.nilFunc]).heap[w.heap.size + 1]? = some (.cells #[.string a,.func (.func 81) #[] #[.pointer (some ⟨w.heap.size,0,none⟩)],.nilFunc] 90 (0,0))) := setRow_same _ _ _ _ _ k1
  have HK1 := Lib.hid k1
  clear k1
  go_wp2_with (refine wpList_store_row rfl 90 (.tmp 4) (.tmp 7) rfl W (w.heap.size + 1) 90 #[.string ⟨#[]⟩,.nilFunc,.nilFunc] #[.string a,.func (.func 81) #[] #[.pointer (some ⟨w.heap.size,0,none⟩)],.nilFunc] rfl rfl HK1.out callSize rfl (by simp [Value.oneCell']) ?_)
  refine bodyPost_ret (results_cell_row (P := Tryz.prog) rfl _ _ (w.heap.size + 1) 90 #[.string a,.func (.func 81) #[] #[.pointer (some ⟨w.heap.size,0,none⟩)],.nilFunc] (0,0) _ rfl HKY.out Tryz.underlying90 rfl callSize) rfl ?_
  exact ⟨⟨w.heap.size,rfl,(setRow_other _ _ _ _ (by omega)).trans (HX.out.at_ (i := 0) rfl)⟩,below_setRow HX.out.below (by omega) _⟩

set_option maxHeartbeats 1000000 in
set_option maxRecDepth 100000 in
theorem sized_c (fm : Fn) (am cm : Array Value) (fl : Fn) (al cl : Array Value) (w : World) :
    Calls Tryz.prog 87 #[.func fm am cm,.func fl al cl] w fun e w' => (∃ b b1,e = .returned (.agg #[.string ⟨#[70,78]⟩,.func (.func 183) #[] #[.pointer (some ⟨b,0,none⟩)],.func fl al cl]) /\ Cap w' b (.func (.func 182) #[] #[.pointer (some ⟨b1,0,none⟩)]) 134 /\ Cap w' b1 (.func fm am cm) 106) /\ Below w.heap.size w w' := by
  have hmf : ∀ (fn : Fn) (first cap : Array Value) (w : World),(Instr.makeFunc fn first cap).run Tryz.prog w = .ok (.func fn first cap) w := fun _ _ _ _ => rfl
  have HX := Lib.hid (bx2 w #[.func fm am cm] #[.string ⟨#[]⟩,.nilFunc,.nilFunc] 106 90)
  go_enter Tryz.func87,Tryz.ntmps87
  go_upto_region 1 with fail
  generalize (w.alloc (.cells #[.func fm am cm] 106)).alloc (.cells #[.string ⟨#[]⟩,.nilFunc,.nilFunc] 90) = W at *
  go_wp2_with fail
  refine (codeRow_c ⟨#[70,78]⟩ (.func 182) #[] #[.pointer (some ⟨w.heap.size,0,none⟩)] fl al cl W).mono ?_
  rintro e w1 ⟨⟨b,rfl,hcb⟩,hb1⟩
  have HX1 := Lib.hid (HX.out.keep hb1)
  have HC := Lib.hid hcb
  have hbn2 : b ≠ w.heap.size + 1 := by
    intro h
    have h2 := HX1.out.at_ (i := 1) rfl
    rw [<- h] at h2
    have := hcb.symm.trans h2
    simp at this
  clear hb1 hcb HX
  have k1 := HX1.out.at_ (i := 1) rfl
  have HKY : Hid ((w1.setRow (w.heap.size + 1) #[.string ⟨#[70,78]⟩,.func (.func 183) #[] #[.pointer (some ⟨b,0,none⟩)],.func fl al cl]).heap[w.heap.size + 1]? = some (.cells #[.string ⟨#[70,78]⟩,.func (.func 183) #[] #[.pointer (some ⟨b,0,none⟩)],.func fl al cl] 90 (0,0))) := setRow_same _ _ _ _ _ k1
  have HK1 := Lib.hid k1
  clear k1
  go_wp2_with (refine wpList_store_row rfl 90 (.tmp 4) (.tmp 7) rfl w1 (w.heap.size + 1) 90 #[.string ⟨#[]⟩,.nilFunc,.nilFunc] #[.string ⟨#[70,78]⟩,.func (.func 183) #[] #[.pointer (some ⟨b,0,none⟩)],.func fl al cl] rfl rfl HK1.out callSize rfl (by simp [Value.oneCell']) ?_)
  refine bodyPost_ret (results_cell_row (P := Tryz.prog) rfl _ _ (w.heap.size + 1) 90 #[.string ⟨#[70,78]⟩,.func (.func 183) #[] #[.pointer (some ⟨b,0,none⟩)],.func fl al cl] (0,0) _ rfl HKY.out Tryz.underlying90 rfl callSize) rfl ?_
  exact ⟨⟨b,w.heap.size,rfl,(setRow_other _ _ _ _ hbn2).trans HC.out,(setRow_other _ _ _ _ (by omega)).trans (HX1.out.at_ (i := 0) rfl)⟩,below_setRow HX1.out.below (by omega) _⟩

set_option maxHeartbeats 1000000 in
set_option maxRecDepth 100000 in
theorem changed_c (fm : Fn) (am cm : Array Value) (fl : Fn) (al cl : Array Value) (w : World) :
    Calls Tryz.prog 114 #[.func fm am cm,.func fl al cl] w fun e w' => (∃ b b1,e = .returned (.agg #[.string ⟨#[67]⟩,.func (.func 183) #[] #[.pointer (some ⟨b,0,none⟩)],.func fl al cl]) /\ Cap w' b (.func (.func 185) #[] #[.pointer (some ⟨b1,0,none⟩)]) 134 /\ Cap w' b1 (.func fm am cm) 142) /\ Below w.heap.size w w' := by
  have hmf : ∀ (fn : Fn) (first cap : Array Value) (w : World),(Instr.makeFunc fn first cap).run Tryz.prog w = .ok (.func fn first cap) w := fun _ _ _ _ => rfl
  have HX := Lib.hid (bx2 w #[.func fm am cm] #[.string ⟨#[]⟩,.nilFunc,.nilFunc] 142 90)
  go_enter Tryz.func114,Tryz.ntmps114
  go_upto_region 1 with fail
  generalize (w.alloc (.cells #[.func fm am cm] 142)).alloc (.cells #[.string ⟨#[]⟩,.nilFunc,.nilFunc] 90) = W at *
  go_wp2_with fail
  refine (codeRow_c ⟨#[67]⟩ (.func 185) #[] #[.pointer (some ⟨w.heap.size,0,none⟩)] fl al cl W).mono ?_
  rintro e w1 ⟨⟨b,rfl,hcb⟩,hb1⟩
  have HX1 := Lib.hid (HX.out.keep hb1)
  have HC := Lib.hid hcb
  have hbn2 : b ≠ w.heap.size + 1 := by
    intro h
    have h2 := HX1.out.at_ (i := 1) rfl
    rw [<- h] at h2
    have := hcb.symm.trans h2
    simp at this
  clear hb1 hcb HX
  have k1 := HX1.out.at_ (i := 1) rfl
  have HKY : Hid ((w1.setRow (w.heap.size + 1) #[.string ⟨#[67]⟩,.func (.func 183) #[] #[.pointer (some ⟨b,0,none⟩)],.func fl al cl]).heap[w.heap.size + 1]? = some (.cells #[.string ⟨#[67]⟩,.func (.func 183) #[] #[.pointer (some ⟨b,0,none⟩)],.func fl al cl] 90 (0,0))) := setRow_same _ _ _ _ _ k1
  have HK1 := Lib.hid k1
  clear k1
  go_wp2_with (refine wpList_store_row rfl 90 (.tmp 4) (.tmp 7) rfl w1 (w.heap.size + 1) 90 #[.string ⟨#[]⟩,.nilFunc,.nilFunc] #[.string ⟨#[67]⟩,.func (.func 183) #[] #[.pointer (some ⟨b,0,none⟩)],.func fl al cl] rfl rfl HK1.out callSize rfl (by simp [Value.oneCell']) ?_)
  refine bodyPost_ret (results_cell_row (P := Tryz.prog) rfl _ _ (w.heap.size + 1) 90 #[.string ⟨#[67]⟩,.func (.func 183) #[] #[.pointer (some ⟨b,0,none⟩)],.func fl al cl] (0,0) _ rfl HKY.out Tryz.underlying90 rfl callSize) rfl ?_
  exact ⟨⟨b,w.heap.size,rfl,(setRow_other _ _ _ _ hbn2).trans HC.out,(setRow_other _ _ _ _ (by omega)).trans (HX1.out.at_ (i := 0) rfl)⟩,below_setRow HX1.out.below (by omega) _⟩

set_option maxHeartbeats 1000000 in
set_option maxRecDepth 100000 in
theorem chosen_c (fm : Fn) (am cm : Array Value) (fl : Fn) (al cl : Array Value) (w : World) :
    Calls Tryz.prog 118 #[.func fm am cm,.func fl al cl] w fun e w' => (∃ b b1,e = .returned (.agg #[.string ⟨#[67,76]⟩,.func (.func 183) #[] #[.pointer (some ⟨b,0,none⟩)],.func fl al cl]) /\ Cap w' b (.func (.func 189) #[] #[.pointer (some ⟨b1,0,none⟩)]) 134 /\ Cap w' b1 (.func fm am cm) 144) /\ Below w.heap.size w w' := by
  have hmf : ∀ (fn : Fn) (first cap : Array Value) (w : World),(Instr.makeFunc fn first cap).run Tryz.prog w = .ok (.func fn first cap) w := fun _ _ _ _ => rfl
  have HX := Lib.hid (bx2 w #[.func fm am cm] #[.string ⟨#[]⟩,.nilFunc,.nilFunc] 144 90)
  go_enter Tryz.func118,Tryz.ntmps118
  go_upto_region 1 with fail
  generalize (w.alloc (.cells #[.func fm am cm] 144)).alloc (.cells #[.string ⟨#[]⟩,.nilFunc,.nilFunc] 90) = W at *
  go_wp2_with fail
  refine (codeRow_c ⟨#[67,76]⟩ (.func 189) #[] #[.pointer (some ⟨w.heap.size,0,none⟩)] fl al cl W).mono ?_
  rintro e w1 ⟨⟨b,rfl,hcb⟩,hb1⟩
  have HX1 := Lib.hid (HX.out.keep hb1)
  have HC := Lib.hid hcb
  have hbn2 : b ≠ w.heap.size + 1 := by
    intro h
    have h2 := HX1.out.at_ (i := 1) rfl
    rw [<- h] at h2
    have := hcb.symm.trans h2
    simp at this
  clear hb1 hcb HX
  have k1 := HX1.out.at_ (i := 1) rfl
  have HKY : Hid ((w1.setRow (w.heap.size + 1) #[.string ⟨#[67,76]⟩,.func (.func 183) #[] #[.pointer (some ⟨b,0,none⟩)],.func fl al cl]).heap[w.heap.size + 1]? = some (.cells #[.string ⟨#[67,76]⟩,.func (.func 183) #[] #[.pointer (some ⟨b,0,none⟩)],.func fl al cl] 90 (0,0))) := setRow_same _ _ _ _ _ k1
  have HK1 := Lib.hid k1
  clear k1
  go_wp2_with (refine wpList_store_row rfl 90 (.tmp 4) (.tmp 7) rfl w1 (w.heap.size + 1) 90 #[.string ⟨#[]⟩,.nilFunc,.nilFunc] #[.string ⟨#[67,76]⟩,.func (.func 183) #[] #[.pointer (some ⟨b,0,none⟩)],.func fl al cl] rfl rfl HK1.out callSize rfl (by simp [Value.oneCell']) ?_)
  refine bodyPost_ret (results_cell_row (P := Tryz.prog) rfl _ _ (w.heap.size + 1) 90 #[.string ⟨#[67,76]⟩,.func (.func 183) #[] #[.pointer (some ⟨b,0,none⟩)],.func fl al cl] (0,0) _ rfl HKY.out Tryz.underlying90 rfl callSize) rfl ?_
  exact ⟨⟨b,w.heap.size,rfl,(setRow_other _ _ _ _ hbn2).trans HC.out,(setRow_other _ _ _ _ (by omega)).trans (HX1.out.at_ (i := 0) rfl)⟩,below_setRow HX1.out.below (by omega) _⟩

set_option maxHeartbeats 1000000 in
set_option maxRecDepth 100000 in
theorem over_c (fm : Fn) (am cm : Array Value) (fl : Fn) (al cl : Array Value) (w : World) :
    Calls Tryz.prog 128 #[.func fm am cm,.func fl al cl] w fun e w' => (∃ b b1,e = .returned (.agg #[.string ⟨#[67,70]⟩,.func (.func 183) #[] #[.pointer (some ⟨b,0,none⟩)],.func fl al cl]) /\ Cap w' b (.func (.func 202) #[] #[.pointer (some ⟨b1,0,none⟩)]) 134 /\ Cap w' b1 (.func fm am cm) 146) /\ Below w.heap.size w w' := by
  have hmf : ∀ (fn : Fn) (first cap : Array Value) (w : World),(Instr.makeFunc fn first cap).run Tryz.prog w = .ok (.func fn first cap) w := fun _ _ _ _ => rfl
  have HX := Lib.hid (bx2 w #[.func fm am cm] #[.string ⟨#[]⟩,.nilFunc,.nilFunc] 146 90)
  go_enter Tryz.func128,Tryz.ntmps128
  go_upto_region 1 with fail
  generalize (w.alloc (.cells #[.func fm am cm] 146)).alloc (.cells #[.string ⟨#[]⟩,.nilFunc,.nilFunc] 90) = W at *
  go_wp2_with fail
  refine (codeRow_c ⟨#[67,70]⟩ (.func 202) #[] #[.pointer (some ⟨w.heap.size,0,none⟩)] fl al cl W).mono ?_
  rintro e w1 ⟨⟨b,rfl,hcb⟩,hb1⟩
  have HX1 := Lib.hid (HX.out.keep hb1)
  have HC := Lib.hid hcb
  have hbn2 : b ≠ w.heap.size + 1 := by
    intro h
    have h2 := HX1.out.at_ (i := 1) rfl
    rw [<- h] at h2
    have := hcb.symm.trans h2
    simp at this
  clear hb1 hcb HX
  have k1 := HX1.out.at_ (i := 1) rfl
  have HKY : Hid ((w1.setRow (w.heap.size + 1) #[.string ⟨#[67,70]⟩,.func (.func 183) #[] #[.pointer (some ⟨b,0,none⟩)],.func fl al cl]).heap[w.heap.size + 1]? = some (.cells #[.string ⟨#[67,70]⟩,.func (.func 183) #[] #[.pointer (some ⟨b,0,none⟩)],.func fl al cl] 90 (0,0))) := setRow_same _ _ _ _ _ k1
  have HK1 := Lib.hid k1
  clear k1
  go_wp2_with (refine wpList_store_row rfl 90 (.tmp 4) (.tmp 7) rfl w1 (w.heap.size + 1) 90 #[.string ⟨#[]⟩,.nilFunc,.nilFunc] #[.string ⟨#[67,70]⟩,.func (.func 183) #[] #[.pointer (some ⟨b,0,none⟩)],.func fl al cl] rfl rfl HK1.out callSize rfl (by simp [Value.oneCell']) ?_)
  refine bodyPost_ret (results_cell_row (P := Tryz.prog) rfl _ _ (w.heap.size + 1) 90 #[.string ⟨#[67,70]⟩,.func (.func 183) #[] #[.pointer (some ⟨b,0,none⟩)],.func fl al cl] (0,0) _ rfl HKY.out Tryz.underlying90 rfl callSize) rfl ?_
  exact ⟨⟨b,w.heap.size,rfl,(setRow_other _ _ _ _ hbn2).trans HC.out,(setRow_other _ _ _ _ (by omega)).trans (HX1.out.at_ (i := 0) rfl)⟩,below_setRow HX1.out.below (by omega) _⟩

set_option maxHeartbeats 1000000 in
set_option maxRecDepth 100000 in
theorem two_c (fm : Fn) (am cm : Array Value) (fl : Fn) (al cl : Array Value) (w : World) :
    Calls Tryz.prog 135 #[.func fm am cm,.func fl al cl] w fun e w' => (∃ b b1,e = .returned (.agg #[.string ⟨#[67,67]⟩,.func (.func 183) #[] #[.pointer (some ⟨b,0,none⟩)],.func fl al cl]) /\ Cap w' b (.func (.func 206) #[] #[.pointer (some ⟨b1,0,none⟩)]) 134 /\ Cap w' b1 (.func fm am cm) 149) /\ Below w.heap.size w w' := by
  have hmf : ∀ (fn : Fn) (first cap : Array Value) (w : World),(Instr.makeFunc fn first cap).run Tryz.prog w = .ok (.func fn first cap) w := fun _ _ _ _ => rfl
  have HX := Lib.hid (bx2 w #[.func fm am cm] #[.string ⟨#[]⟩,.nilFunc,.nilFunc] 149 90)
  go_enter Tryz.func135,Tryz.ntmps135
  go_upto_region 1 with fail
  generalize (w.alloc (.cells #[.func fm am cm] 149)).alloc (.cells #[.string ⟨#[]⟩,.nilFunc,.nilFunc] 90) = W at *
  go_wp2_with fail
  refine (codeRow_c ⟨#[67,67]⟩ (.func 206) #[] #[.pointer (some ⟨w.heap.size,0,none⟩)] fl al cl W).mono ?_
  rintro e w1 ⟨⟨b,rfl,hcb⟩,hb1⟩
  have HX1 := Lib.hid (HX.out.keep hb1)
  have HC := Lib.hid hcb
  have hbn2 : b ≠ w.heap.size + 1 := by
    intro h
    have h2 := HX1.out.at_ (i := 1) rfl
    rw [<- h] at h2
    have := hcb.symm.trans h2
    simp at this
  clear hb1 hcb HX
  have k1 := HX1.out.at_ (i := 1) rfl
  have HKY : Hid ((w1.setRow (w.heap.size + 1) #[.string ⟨#[67,67]⟩,.func (.func 183) #[] #[.pointer (some ⟨b,0,none⟩)],.func fl al cl]).heap[w.heap.size + 1]? = some (.cells #[.string ⟨#[67,67]⟩,.func (.func 183) #[] #[.pointer (some ⟨b,0,none⟩)],.func fl al cl] 90 (0,0))) := setRow_same _ _ _ _ _ k1
  have HK1 := Lib.hid k1
  clear k1
  go_wp2_with (refine wpList_store_row rfl 90 (.tmp 4) (.tmp 7) rfl w1 (w.heap.size + 1) 90 #[.string ⟨#[]⟩,.nilFunc,.nilFunc] #[.string ⟨#[67,67]⟩,.func (.func 183) #[] #[.pointer (some ⟨b,0,none⟩)],.func fl al cl] rfl rfl HK1.out callSize rfl (by simp [Value.oneCell']) ?_)
  refine bodyPost_ret (results_cell_row (P := Tryz.prog) rfl _ _ (w.heap.size + 1) 90 #[.string ⟨#[67,67]⟩,.func (.func 183) #[] #[.pointer (some ⟨b,0,none⟩)],.func fl al cl] (0,0) _ rfl HKY.out Tryz.underlying90 rfl callSize) rfl ?_
  exact ⟨⟨b,w.heap.size,rfl,(setRow_other _ _ _ _ hbn2).trans HC.out,(setRow_other _ _ _ _ (by omega)).trans (HX1.out.at_ (i := 0) rfl)⟩,below_setRow HX1.out.below (by omega) _⟩

end Go.Proofs.YtaddcadapbpkfaaGreatDoor

