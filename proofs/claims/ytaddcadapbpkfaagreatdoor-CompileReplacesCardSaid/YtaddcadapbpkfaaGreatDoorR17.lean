/-
 compile: the functions that make a row of the table. The table's names; the standard field of an order; the field that an expression means: plain definitions.
-/
import Derived.Test.YtaddcadapbpkfaaGreatDoorR03
import Derived.Test.YtaddcadapbpkfaaGreatDoorR16
import Derived.Test.YtaddcadapbpkfaaGreatDoorR08
namespace Go.Proofs.YtaddcadapbpkfaaGreatDoor
open Go.RowKit
theorem callSize : (Tryz.prog.info? 90).map (·.size) = some 3 := by kernel_rfl
def Cap (w : World) (b : Nat) (v : Value) (t : TypeId) : Prop := w.heap[b]? = some (.cells #[v] t (0,0))
theorem Cap.keep {w w' : World} {b : Nat} {v : Value} {t : TypeId} (h : Cap w b v t) (hb : Below w.heap.size w w') : Cap w' b v t := (hb.block b (Array.getElem?_eq_some_iff.1 h).1).trans h
set_option maxHeartbeats 1000000 in
set_option maxRecDepth 100000 in
theorem qaW (a : ByteArray) (fm : Fn) (am cm : Array Value) (fl : Fn) (al cl : Array Value) (w : World) :
 Calls Tryz.prog 90 #[.string a,.func fm am cm,.func fl al cl] w fun e w' => (∃ b,e = .returned (.agg #[.string a,.func (.func 183) #[] #[.pointer (some ⟨b,0,none⟩)],.func fl al cl]) /\ Cap w' b (.func fm am cm) 134) /\ Below w.heap.size w w' := by
 have hmf : ∀ (fn : Fn) (first cap : Array Value) (w : World),(Instr.makeFunc fn first cap).run Tryz.prog w = .ok (.func fn first cap) w := fun _ _ _ _ => rfl
 have HX := Lib.hid (bx2 w #[.func fm am cm] #[.string ⟨#[]⟩,.nilFunc,.nilFunc] 134 90)
 have hs : ((w.alloc (.cells #[.func fm am cm] 134)).alloc (.cells #[.string ⟨#[]⟩,.nilFunc,.nilFunc] 90)).heap.size = w.heap.size + 2 := by simp
 have HS := Lib.hid hs
 clear hs
 go_enter Tryz.func90,Tryz.ntmps90
 go_upto_region 1 with fail
 generalize (w.alloc (.cells #[.func fm am cm] 134)).alloc (.cells #[.string ⟨#[]⟩,.nilFunc,.nilFunc] 90) = W at *
 have k1 := HX.out.at_ (i := 1) rfl
 have HKY : Hid ((W.setRow (w.heap.size + 1) #[.string a,.func (.func 183) #[] #[.pointer (some ⟨w.heap.size,0,none⟩)],.func fl al cl]).heap[w.heap.size + 1]? = some (.cells #[.string a,.func (.func 183) #[] #[.pointer (some ⟨w.heap.size,0,none⟩)],.func fl al cl] 90 (0,0))) := qaF _ _ _ _ _ k1
 have HK1 := Lib.hid k1
 clear k1
 go_wp2_with (refine qaA rfl 90 (.tmp 6) (.tmp 10) rfl W (w.heap.size + 1) 90 #[.string ⟨#[]⟩,.nilFunc,.nilFunc] #[.string a,.func (.func 183) #[] #[.pointer (some ⟨w.heap.size,0,none⟩)],.func fl al cl] rfl rfl HK1.out callSize rfl (by simp [Value.oneCell']) ?_)
 refine bodyPost_ret (results_cell_row (P := Tryz.prog) rfl _ _ (w.heap.size + 1) 90 #[.string a,.func (.func 183) #[] #[.pointer (some ⟨w.heap.size,0,none⟩)],.func fl al cl] (0,0) _ rfl HKY.out Tryz.underlying90 rfl callSize) rfl ?_
 exact ⟨⟨w.heap.size,rfl,(setRow_other _ _ _ _ (by omega)).trans (HX.out.at_ (i := 0) rfl)⟩,qaD HX.out.below (by omega) _⟩
set_option maxHeartbeats 1000000 in
set_option maxRecDepth 100000 in
theorem fieldRow_c (a : ByteArray) (fm : Fn) (am cm : Array Value) (w : World) :
 Calls Tryz.prog 45 #[.string a,.func fm am cm] w fun e w' => (∃ b,e = .returned (.agg #[.string a,.func (.func 81) #[] #[.pointer (some ⟨b,0,none⟩)],.nilFunc]) /\ Cap w' b (.func fm am cm) 94) /\ Below w.heap.size w w' := by
 have hmf : ∀ (fn : Fn) (first cap : Array Value) (w : World),(Instr.makeFunc fn first cap).run Tryz.prog w = .ok (.func fn first cap) w := fun _ _ _ _ => rfl
 have HX := Lib.hid (bx2 w #[.func fm am cm] #[.string ⟨#[]⟩,.nilFunc,.nilFunc] 94 90)
 have hs : ((w.alloc (.cells #[.func fm am cm] 94)).alloc (.cells #[.string ⟨#[]⟩,.nilFunc,.nilFunc] 90)).heap.size = w.heap.size + 2 := by simp
 have HS := Lib.hid hs
 clear hs
 go_enter Tryz.func45,Tryz.ntmps45
 go_upto_region 1 with fail
 generalize (w.alloc (.cells #[.func fm am cm] 94)).alloc (.cells #[.string ⟨#[]⟩,.nilFunc,.nilFunc] 90) = W at *
 have k1 := HX.out.at_ (i := 1) rfl
 have HKY : Hid ((W.setRow (w.heap.size + 1) #[.string a,.func (.func 81) #[] #[.pointer (some ⟨w.heap.size,0,none⟩)],.nilFunc]).heap[w.heap.size + 1]? = some (.cells #[.string a,.func (.func 81) #[] #[.pointer (some ⟨w.heap.size,0,none⟩)],.nilFunc] 90 (0,0))) := qaF _ _ _ _ _ k1
 have HK1 := Lib.hid k1
 clear k1
 go_wp2_with (refine qaA rfl 90 (.tmp 4) (.tmp 7) rfl W (w.heap.size + 1) 90 #[.string ⟨#[]⟩,.nilFunc,.nilFunc] #[.string a,.func (.func 81) #[] #[.pointer (some ⟨w.heap.size,0,none⟩)],.nilFunc] rfl rfl HK1.out callSize rfl (by simp [Value.oneCell']) ?_)
 refine bodyPost_ret (results_cell_row (P := Tryz.prog) rfl _ _ (w.heap.size + 1) 90 #[.string a,.func (.func 81) #[] #[.pointer (some ⟨w.heap.size,0,none⟩)],.nilFunc] (0,0) _ rfl HKY.out Tryz.underlying90 rfl callSize) rfl ?_
 exact ⟨⟨w.heap.size,rfl,(setRow_other _ _ _ _ (by omega)).trans (HX.out.at_ (i := 0) rfl)⟩,qaD HX.out.below (by omega) _⟩
set_option maxHeartbeats 1000000 in
set_option maxRecDepth 100000 in
theorem sized_c (fm : Fn) (am cm : Array Value) (fl : Fn) (al cl : Array Value) (w : World) :
 Calls Tryz.prog 87 #[.func fm am cm,.func fl al cl] w fun e w' => (∃ b b1,e = .returned (.agg #[.string ⟨#[70,78]⟩,.func (.func 183) #[] #[.pointer (some ⟨b,0,none⟩)],.func fl al cl]) /\ Cap w' b (.func (.func 182) #[] #[.pointer (some ⟨b1,0,none⟩)]) 134 /\ Cap w' b1 (.func fm am cm) 106) /\ Below w.heap.size w w' := by
 have hmf : ∀ (fn : Fn) (first cap : Array Value) (w : World),(Instr.makeFunc fn first cap).run Tryz.prog w = .ok (.func fn first cap) w := fun _ _ _ _ => rfl
 have HX := Lib.hid (bx2 w #[.func fm am cm] #[.string ⟨#[]⟩,.nilFunc,.nilFunc] 106 90)
 go_enter Tryz.func87,Tryz.ntmps87
 go_upto_region 1 with fail
 generalize (w.alloc (.cells #[.func fm am cm] 106)).alloc (.cells #[.string ⟨#[]⟩,.nilFunc,.nilFunc] 90) = W at *
 go_wp2_with fail
 refine (qaW ⟨#[70,78]⟩ (.func 182) #[] #[.pointer (some ⟨w.heap.size,0,none⟩)] fl al cl W).mono ?_
 rintro e w1 ⟨⟨b,rfl,hcb⟩,hb1⟩
 have HX1 := Lib.hid (HX.out.keep hb1)
 have HC := Lib.hid hcb
 have hbn2 : b ≠ w.heap.size + 1 := by
  intro h
  have h2 := HX1.out.at_ (i := 1) rfl
  rw [<- h] at h2
  have := hcb.symm.trans h2
  simp at this
 clear hb1 hcb HX
 have k1 := HX1.out.at_ (i := 1) rfl
 have HKY : Hid ((w1.setRow (w.heap.size + 1) #[.string ⟨#[70,78]⟩,.func (.func 183) #[] #[.pointer (some ⟨b,0,none⟩)],.func fl al cl]).heap[w.heap.size + 1]? = some (.cells #[.string ⟨#[70,78]⟩,.func (.func 183) #[] #[.pointer (some ⟨b,0,none⟩)],.func fl al cl] 90 (0,0))) := qaF _ _ _ _ _ k1
 have HK1 := Lib.hid k1
 clear k1
 go_wp2_with (refine qaA rfl 90 (.tmp 4) (.tmp 7) rfl w1 (w.heap.size + 1) 90 #[.string ⟨#[]⟩,.nilFunc,.nilFunc] #[.string ⟨#[70,78]⟩,.func (.func 183) #[] #[.pointer (some ⟨b,0,none⟩)],.func fl al cl] rfl rfl HK1.out callSize rfl (by simp [Value.oneCell']) ?_)
 refine bodyPost_ret (results_cell_row (P := Tryz.prog) rfl _ _ (w.heap.size + 1) 90 #[.string ⟨#[70,78]⟩,.func (.func 183) #[] #[.pointer (some ⟨b,0,none⟩)],.func fl al cl] (0,0) _ rfl HKY.out Tryz.underlying90 rfl callSize) rfl ?_
 exact ⟨⟨b,w.heap.size,rfl,(setRow_other _ _ _ _ hbn2).trans HC.out,(setRow_other _ _ _ _ (by omega)).trans (HX1.out.at_ (i := 0) rfl)⟩,qaD HX1.out.below (by omega) _⟩
set_option maxHeartbeats 1000000 in
set_option maxRecDepth 100000 in
theorem qeI (fm : Fn) (am cm : Array Value) (fl : Fn) (al cl : Array Value) (w : World) :
 Calls Tryz.prog 114 #[.func fm am cm,.func fl al cl] w fun e w' => (∃ b b1,e = .returned (.agg #[.string ⟨#[67]⟩,.func (.func 183) #[] #[.pointer (some ⟨b,0,none⟩)],.func fl al cl]) /\ Cap w' b (.func (.func 185) #[] #[.pointer (some ⟨b1,0,none⟩)]) 134 /\ Cap w' b1 (.func fm am cm) 142) /\ Below w.heap.size w w' := by
 have hmf : ∀ (fn : Fn) (first cap : Array Value) (w : World),(Instr.makeFunc fn first cap).run Tryz.prog w = .ok (.func fn first cap) w := fun _ _ _ _ => rfl
 have HX := Lib.hid (bx2 w #[.func fm am cm] #[.string ⟨#[]⟩,.nilFunc,.nilFunc] 142 90)
 go_enter Tryz.func114,Tryz.ntmps114
 go_upto_region 1 with fail
 generalize (w.alloc (.cells #[.func fm am cm] 142)).alloc (.cells #[.string ⟨#[]⟩,.nilFunc,.nilFunc] 90) = W at *
 go_wp2_with fail
 refine (qaW ⟨#[67]⟩ (.func 185) #[] #[.pointer (some ⟨w.heap.size,0,none⟩)] fl al cl W).mono ?_
 rintro e w1 ⟨⟨b,rfl,hcb⟩,hb1⟩
 have HX1 := Lib.hid (HX.out.keep hb1)
 have HC := Lib.hid hcb
 have hbn2 : b ≠ w.heap.size + 1 := by
  intro h
  have h2 := HX1.out.at_ (i := 1) rfl
  rw [<- h] at h2
  have := hcb.symm.trans h2
  simp at this
 clear hb1 hcb HX
 have k1 := HX1.out.at_ (i := 1) rfl
 have HKY : Hid ((w1.setRow (w.heap.size + 1) #[.string ⟨#[67]⟩,.func (.func 183) #[] #[.pointer (some ⟨b,0,none⟩)],.func fl al cl]).heap[w.heap.size + 1]? = some (.cells #[.string ⟨#[67]⟩,.func (.func 183) #[] #[.pointer (some ⟨b,0,none⟩)],.func fl al cl] 90 (0,0))) := qaF _ _ _ _ _ k1
 have HK1 := Lib.hid k1
 clear k1
 go_wp2_with (refine qaA rfl 90 (.tmp 4) (.tmp 7) rfl w1 (w.heap.size + 1) 90 #[.string ⟨#[]⟩,.nilFunc,.nilFunc] #[.string ⟨#[67]⟩,.func (.func 183) #[] #[.pointer (some ⟨b,0,none⟩)],.func fl al cl] rfl rfl HK1.out callSize rfl (by simp [Value.oneCell']) ?_)
 refine bodyPost_ret (results_cell_row (P := Tryz.prog) rfl _ _ (w.heap.size + 1) 90 #[.string ⟨#[67]⟩,.func (.func 183) #[] #[.pointer (some ⟨b,0,none⟩)],.func fl al cl] (0,0) _ rfl HKY.out Tryz.underlying90 rfl callSize) rfl ?_
 exact ⟨⟨b,w.heap.size,rfl,(setRow_other _ _ _ _ hbn2).trans HC.out,(setRow_other _ _ _ _ (by omega)).trans (HX1.out.at_ (i := 0) rfl)⟩,qaD HX1.out.below (by omega) _⟩
set_option maxHeartbeats 1000000 in
set_option maxRecDepth 100000 in
theorem chosen_c (fm : Fn) (am cm : Array Value) (fl : Fn) (al cl : Array Value) (w : World) :
 Calls Tryz.prog 118 #[.func fm am cm,.func fl al cl] w fun e w' => (∃ b b1,e = .returned (.agg #[.string ⟨#[67,76]⟩,.func (.func 183) #[] #[.pointer (some ⟨b,0,none⟩)],.func fl al cl]) /\ Cap w' b (.func (.func 189) #[] #[.pointer (some ⟨b1,0,none⟩)]) 134 /\ Cap w' b1 (.func fm am cm) 144) /\ Below w.heap.size w w' := by
 have hmf : ∀ (fn : Fn) (first cap : Array Value) (w : World),(Instr.makeFunc fn first cap).run Tryz.prog w = .ok (.func fn first cap) w := fun _ _ _ _ => rfl
 have HX := Lib.hid (bx2 w #[.func fm am cm] #[.string ⟨#[]⟩,.nilFunc,.nilFunc] 144 90)
 go_enter Tryz.func118,Tryz.ntmps118
 go_upto_region 1 with fail
 generalize (w.alloc (.cells #[.func fm am cm] 144)).alloc (.cells #[.string ⟨#[]⟩,.nilFunc,.nilFunc] 90) = W at *
 go_wp2_with fail
 refine (qaW ⟨#[67,76]⟩ (.func 189) #[] #[.pointer (some ⟨w.heap.size,0,none⟩)] fl al cl W).mono ?_
 rintro e w1 ⟨⟨b,rfl,hcb⟩,hb1⟩
 have HX1 := Lib.hid (HX.out.keep hb1)
 have HC := Lib.hid hcb
 have hbn2 : b ≠ w.heap.size + 1 := by
  intro h
  have h2 := HX1.out.at_ (i := 1) rfl
  rw [<- h] at h2
  have := hcb.symm.trans h2
  simp at this
 clear hb1 hcb HX
 have k1 := HX1.out.at_ (i := 1) rfl
 have HKY : Hid ((w1.setRow (w.heap.size + 1) #[.string ⟨#[67,76]⟩,.func (.func 183) #[] #[.pointer (some ⟨b,0,none⟩)],.func fl al cl]).heap[w.heap.size + 1]? = some (.cells #[.string ⟨#[67,76]⟩,.func (.func 183) #[] #[.pointer (some ⟨b,0,none⟩)],.func fl al cl] 90 (0,0))) := qaF _ _ _ _ _ k1
 have HK1 := Lib.hid k1
 clear k1
 go_wp2_with (refine qaA rfl 90 (.tmp 4) (.tmp 7) rfl w1 (w.heap.size + 1) 90 #[.string ⟨#[]⟩,.nilFunc,.nilFunc] #[.string ⟨#[67,76]⟩,.func (.func 183) #[] #[.pointer (some ⟨b,0,none⟩)],.func fl al cl] rfl rfl HK1.out callSize rfl (by simp [Value.oneCell']) ?_)
 refine bodyPost_ret (results_cell_row (P := Tryz.prog) rfl _ _ (w.heap.size + 1) 90 #[.string ⟨#[67,76]⟩,.func (.func 183) #[] #[.pointer (some ⟨b,0,none⟩)],.func fl al cl] (0,0) _ rfl HKY.out Tryz.underlying90 rfl callSize) rfl ?_
 exact ⟨⟨b,w.heap.size,rfl,(setRow_other _ _ _ _ hbn2).trans HC.out,(setRow_other _ _ _ _ (by omega)).trans (HX1.out.at_ (i := 0) rfl)⟩,qaD HX1.out.below (by omega) _⟩
set_option maxHeartbeats 1000000 in
set_option maxRecDepth 100000 in
theorem over_c (fm : Fn) (am cm : Array Value) (fl : Fn) (al cl : Array Value) (w : World) :
 Calls Tryz.prog 128 #[.func fm am cm,.func fl al cl] w fun e w' => (∃ b b1,e = .returned (.agg #[.string ⟨#[67,70]⟩,.func (.func 183) #[] #[.pointer (some ⟨b,0,none⟩)],.func fl al cl]) /\ Cap w' b (.func (.func 202) #[] #[.pointer (some ⟨b1,0,none⟩)]) 134 /\ Cap w' b1 (.func fm am cm) 146) /\ Below w.heap.size w w' := by
 have hmf : ∀ (fn : Fn) (first cap : Array Value) (w : World),(Instr.makeFunc fn first cap).run Tryz.prog w = .ok (.func fn first cap) w := fun _ _ _ _ => rfl
 have HX := Lib.hid (bx2 w #[.func fm am cm] #[.string ⟨#[]⟩,.nilFunc,.nilFunc] 146 90)
 go_enter Tryz.func128,Tryz.ntmps128
 go_upto_region 1 with fail
 generalize (w.alloc (.cells #[.func fm am cm] 146)).alloc (.cells #[.string ⟨#[]⟩,.nilFunc,.nilFunc] 90) = W at *
 go_wp2_with fail
 refine (qaW ⟨#[67,70]⟩ (.func 202) #[] #[.pointer (some ⟨w.heap.size,0,none⟩)] fl al cl W).mono ?_
 rintro e w1 ⟨⟨b,rfl,hcb⟩,hb1⟩
 have HX1 := Lib.hid (HX.out.keep hb1)
 have HC := Lib.hid hcb
 have hbn2 : b ≠ w.heap.size + 1 := by
  intro h
  have h2 := HX1.out.at_ (i := 1) rfl
  rw [<- h] at h2
  have := hcb.symm.trans h2
  simp at this
 clear hb1 hcb HX
 have k1 := HX1.out.at_ (i := 1) rfl
 have HKY : Hid ((w1.setRow (w.heap.size + 1) #[.string ⟨#[67,70]⟩,.func (.func 183) #[] #[.pointer (some ⟨b,0,none⟩)],.func fl al cl]).heap[w.heap.size + 1]? = some (.cells #[.string ⟨#[67,70]⟩,.func (.func 183) #[] #[.pointer (some ⟨b,0,none⟩)],.func fl al cl] 90 (0,0))) := qaF _ _ _ _ _ k1
 have HK1 := Lib.hid k1
 clear k1
 go_wp2_with (refine qaA rfl 90 (.tmp 4) (.tmp 7) rfl w1 (w.heap.size + 1) 90 #[.string ⟨#[]⟩,.nilFunc,.nilFunc] #[.string ⟨#[67,70]⟩,.func (.func 183) #[] #[.pointer (some ⟨b,0,none⟩)],.func fl al cl] rfl rfl HK1.out callSize rfl (by simp [Value.oneCell']) ?_)
 refine bodyPost_ret (results_cell_row (P := Tryz.prog) rfl _ _ (w.heap.size + 1) 90 #[.string ⟨#[67,70]⟩,.func (.func 183) #[] #[.pointer (some ⟨b,0,none⟩)],.func fl al cl] (0,0) _ rfl HKY.out Tryz.underlying90 rfl callSize) rfl ?_
 exact ⟨⟨b,w.heap.size,rfl,(setRow_other _ _ _ _ hbn2).trans HC.out,(setRow_other _ _ _ _ (by omega)).trans (HX1.out.at_ (i := 0) rfl)⟩,qaD HX1.out.below (by omega) _⟩
set_option maxHeartbeats 1000000 in
set_option maxRecDepth 100000 in
theorem two_c (fm : Fn) (am cm : Array Value) (fl : Fn) (al cl : Array Value) (w : World) :
 Calls Tryz.prog 135 #[.func fm am cm,.func fl al cl] w fun e w' => (∃ b b1,e = .returned (.agg #[.string ⟨#[67,67]⟩,.func (.func 183) #[] #[.pointer (some ⟨b,0,none⟩)],.func fl al cl]) /\ Cap w' b (.func (.func 206) #[] #[.pointer (some ⟨b1,0,none⟩)]) 134 /\ Cap w' b1 (.func fm am cm) 149) /\ Below w.heap.size w w' := by
 have hmf : ∀ (fn : Fn) (first cap : Array Value) (w : World),(Instr.makeFunc fn first cap).run Tryz.prog w = .ok (.func fn first cap) w := fun _ _ _ _ => rfl
 have HX := Lib.hid (bx2 w #[.func fm am cm] #[.string ⟨#[]⟩,.nilFunc,.nilFunc] 149 90)
 go_enter Tryz.func135,Tryz.ntmps135
 go_upto_region 1 with fail
 generalize (w.alloc (.cells #[.func fm am cm] 149)).alloc (.cells #[.string ⟨#[]⟩,.nilFunc,.nilFunc] 90) = W at *
 go_wp2_with fail
 refine (qaW ⟨#[67,67]⟩ (.func 206) #[] #[.pointer (some ⟨w.heap.size,0,none⟩)] fl al cl W).mono ?_
 rintro e w1 ⟨⟨b,rfl,hcb⟩,hb1⟩
 have HX1 := Lib.hid (HX.out.keep hb1)
 have HC := Lib.hid hcb
 have hbn2 : b ≠ w.heap.size + 1 := by
  intro h
  have h2 := HX1.out.at_ (i := 1) rfl
  rw [<- h] at h2
  have := hcb.symm.trans h2
  simp at this
 clear hb1 hcb HX
 have k1 := HX1.out.at_ (i := 1) rfl
 have HKY : Hid ((w1.setRow (w.heap.size + 1) #[.string ⟨#[67,67]⟩,.func (.func 183) #[] #[.pointer (some ⟨b,0,none⟩)],.func fl al cl]).heap[w.heap.size + 1]? = some (.cells #[.string ⟨#[67,67]⟩,.func (.func 183) #[] #[.pointer (some ⟨b,0,none⟩)],.func fl al cl] 90 (0,0))) := qaF _ _ _ _ _ k1
 have HK1 := Lib.hid k1
 clear k1
 go_wp2_with (refine qaA rfl 90 (.tmp 4) (.tmp 7) rfl w1 (w.heap.size + 1) 90 #[.string ⟨#[]⟩,.nilFunc,.nilFunc] #[.string ⟨#[67,67]⟩,.func (.func 183) #[] #[.pointer (some ⟨b,0,none⟩)],.func fl al cl] rfl rfl HK1.out callSize rfl (by simp [Value.oneCell']) ?_)
 refine bodyPost_ret (results_cell_row (P := Tryz.prog) rfl _ _ (w.heap.size + 1) 90 #[.string ⟨#[67,67]⟩,.func (.func 183) #[] #[.pointer (some ⟨b,0,none⟩)],.func fl al cl] (0,0) _ rfl HKY.out Tryz.underlying90 rfl callSize) rfl ?_
 exact ⟨⟨b,w.heap.size,rfl,(setRow_other _ _ _ _ hbn2).trans HC.out,(setRow_other _ _ _ _ (by omega)).trans (HX1.out.at_ (i := 0) rfl)⟩,qaD HX1.out.below (by omega) _⟩
end Go.Proofs.YtaddcadapbpkfaaGreatDoor
namespace Go.Proofs.YtaddcadapbpkfaaGreatDoor
def gfN : List UInt8 := [103,102]
def famN : List (List UInt8) := [[122,101,114,111],[119,104,111,108,101],[109,97,116,114,105,120],[114,101,112],[112,97,114,105,116,121],[104,97,109,109,105,110,103],[115,105,109,112,108,101,120],[114,109],[114,101,115,105,100,117,101],[103,111,108,97,121]]
def algN : List (List UInt8) := [[99,121,99,108,105,99],[98,99,104],[114,115],[103,114,115],[97,108,116,101,114,110,97,110,116],[103,111,112,112,97]]
def modN : List (List UInt8) := [[100,117,97,108],[104,117,108,108],[112,117,110,99,116,117,114,101],[115,104,111,114,116,101,110],[115,117,98,99,111,100,101],[112,101,114,109,117,116,101],[101,120,112,117,114,103,97,116,101],[97,117,103,109,101,110,116],[101,120,116,101,110,100],[115,117,98,102,105,101,108,100],[116,114,97,99,101],[108,105,102,116],[105,110,116,101,114,108,101,97,118,101]]
def comN : List (List UInt8) := [[106,111,105,110],[109,101,101,116],[115,117,109],[112,108,111,116,107,105,110],[106,117,120,116,97,112,111,115,101],[112,114,111,100,117,99,116],[99,111,110,99,97,116],[120]]
structure FR where
 e : Int
 p : Int
 m : Int
 mod : List Int
def FR.err (e : Int) : FR := ⟨e,0,0,[]⟩
def pGo (q p : Nat) : Nat -> Nat
 | 0 => p
 | f + 1 => if q % p = 0 then p else pGo q (p + 1) f
def pM (q : Nat) : Nat := pGo q 2 256
def mGo (q p m : Nat) : Nat -> Nat
 | 0 => m
 | f + 1 => if orderM (p : Int) (m : Int) < (q : Int) /\ m < 8 then mGo q p (m + 1) f else m
def mM (q p : Nat) : Nat := mGo q p 1 8
def vGo (p m v : Nat) : Nat -> FR
 | 0 => .err 6
 | f + 1 => if fieldOK (p : Int) (m : Int) (nz (Pln.digs p m v)) = true then ⟨0,p,m,nz (Pln.digs p m v)⟩ else vGo p m (v + 1) f
def stdN (q : Nat) : FR :=
 if orderM (pM q : Int) (mM q (pM q) : Int) = (q : Int) then (if mM q (pM q) = 1 then ⟨0,pM q,1,[]⟩ else vGo (pM q) (mM q (pM q)) 0 q) else .err 6
def stdM (q : Int) : FR := if q < 2 \/ 256 < q then .err 6 else stdN q.toNat
theorem stdM_out {q : Int} (h : q < 2 \/ 256 < q) : stdM q = .err 6 := by unfold stdM;rw [if_pos h]
theorem stdM_in {q : Nat} (h1 : 2 <= q) (h2 : q <= 256) : stdM (q : Int) = stdN q := by unfold stdM;rw [if_neg (by omega),Int.toNat_natCast]
theorem pGo_step {q p f : Nat} (h : ¬ q % p = 0) : pGo q p (f + 1) = pGo q (p + 1) f := by conv => lhs;unfold pGo;rw [if_neg h]
theorem pGo_stop {q p f : Nat} (h : q % p = 0) : pGo q p f = p := by cases f with | zero => rfl | succ f => unfold pGo;rw [if_pos h]
theorem mGo_step {q p m f : Nat} (h : orderM (p : Int) (m : Int) < (q : Int) /\ m < 8) : mGo q p m (f + 1) = mGo q p (m + 1) f := by conv => lhs;unfold mGo;rw [if_pos h]
theorem mGo_stop {q p m f : Nat} (h : ¬ (orderM (p : Int) (m : Int) < (q : Int) /\ m < 8)) : mGo q p m f = m := by cases f with | zero => rfl | succ f => unfold mGo;rw [if_neg h]
theorem vGo_step {p m v f : Nat} (h : fieldOK (p : Int) (m : Int) (nz (Pln.digs p m v)) = false) : vGo p m v (f + 1) = vGo p m (v + 1) f := by conv => lhs;unfold vGo;rw [if_neg (by rw [h];exact Bool.false_ne_true)]
theorem vGo_stop {p m v f : Nat} (h : fieldOK (p : Int) (m : Int) (nz (Pln.digs p m v)) = true) : vGo p m v (f + 1) = ⟨0,p,m,nz (Pln.digs p m v)⟩ := by unfold vGo;rw [if_pos h]
theorem std8 : stdM 8 = ⟨0,2,3,[1,1,0]⟩ := by kernel_rfl
end Go.Proofs.YtaddcadapbpkfaaGreatDoor
