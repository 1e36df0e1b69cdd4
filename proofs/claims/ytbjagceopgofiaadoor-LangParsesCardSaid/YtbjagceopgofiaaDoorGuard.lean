/-
  lang.guard: what the deferred function does with the parser's panic, and without one.
-/
import Derived.Test.YtbjagceopgofiaaDoorLexA
import Derived.Defers
import Derived.Recover
import Derived.Laws.Pointers
import Derived.RegionTactic
namespace Go.Proofs.YtbjagceopgofiaaDoor
open Go.RowKit

theorem frame21 (a b v : Value) : (#[a, b] ++ (Array.replicate 19 undef).setIfInBounds 5 v) = #[a, b, undef, undef, undef, undef, undef, v, undef, undef, undef, undef, undef, undef, undef, undef, undef, undef, undef, undef, undef] := by
  apply Array.ext'
  simp [List.replicate]
def GQ (w : World) (e : Exit) (a : Act) (w' : World) : Prop := e = .normal ∧ a.defers = [] ∧ w' = w

set_option maxHeartbeats 2000000 in
set_option maxRecDepth 100000 in
theorem guard_idle (pe pa : Addr) (w : World) :
    CallsD Tryd.prog 25 #[.pointer (some pe), .pointer (some pa)] .returning w fun e u' w' => e = .returned (.tuple #[]) ∧ u' = .returning ∧ w' = w := by
  refine callsD_of_wpS Tryd.func25 rfl fun c₀ cs hu => ?_
  apply wpS_seq
  apply wpS_region
  simp [wpOpsS, go_sem, recoverD, hu, Tryd.ntmps25, Exit.thenS]
  refine wpS_of_wp (Code.wp_mono (Q := GQ w) ?_ ?_)
  · rintro e a' w' ⟨rfl, hd, rfl⟩
    cases c₀
    simp_all [bodyPostS, results, Tryd.results25]
  · rw [frame21]
    go_wp2_with fail
    exact ⟨rfl, rfl, rfl⟩

/-- Behind the guard the two results (blocks be, ba) hold the error and its offset; every other block stands. -/
def Guarded (be ba : Nat) (e at_ : Int) (w w' : World) : Prop :=
  w'.cell? ⟨be, 0, none⟩ = some (.int .i64 e) ∧ w'.cell? ⟨ba, 0, none⟩ = some (.int .i64 at_) ∧ w'.os = w.os ∧ w'.tape = w.tape ∧ w'.output = w.output ∧ w.heap.size ≤ w'.heap.size ∧ ∀ k, k < w.heap.size → k ≠ be → k ≠ ba → w'.heap[k]? = w.heap[k]?
def GQ2 (be ba : Nat) (e at_ : Int) (w : World) (x : Exit) (a : Act) (w' : World) : Prop := x = .normal ∧ a.defers = [] ∧ Guarded be ba e at_ w w'
theorem guarded_mk (be ba : Nat) (e at_ : Int) (w : World) (o : Obj) (x y : Int) (hbe : be < w.heap.size) (hba : ba < w.heap.size) (hne : be ≠ ba) (hce : w.cell? ⟨be, 0, none⟩ = some (.int .i64 x)) (hca : w.cell? ⟨ba, 0, none⟩ = some (.int .i64 y)) :
    Guarded be ba e at_ w ((((w.setCell ⟨be, 0, none⟩ (.int .i64 e)).setCell ⟨ba, 0, none⟩ (.int .i64 at_)).alloc o).drew) := by
  have hsz : ((w.setCell ⟨be, 0, none⟩ (.int .i64 e)).setCell ⟨ba, 0, none⟩ (.int .i64 at_)).heap.size = w.heap.size := by simp [World.setCell]
  have hal : ∀ k, k < w.heap.size → ((((w.setCell ⟨be, 0, none⟩ (.int .i64 e)).setCell ⟨ba, 0, none⟩ (.int .i64 at_)).alloc o).drew).heap[k]? = ((w.setCell ⟨be, 0, none⟩ (.int .i64 e)).setCell ⟨ba, 0, none⟩ (.int .i64 at_)).heap[k]? := fun k hk => Below.heap_alloc _ _ _ (by rw [hsz]; exact hk)
  refine ⟨?_, ?_, rfl, rfl, rfl, ?_, fun k hk h1 h2 => ?_⟩
  · rw [World.cell?_of_block (hal be hbe), World.cell?_setCell_other _ _ _ _ (fun h => hne (by injection h with h1; exact h1.symm)), World.cell?_setCell_same _ _ _ hce]
  · rw [World.cell?_of_block (hal ba hba), World.cell?_setCell_same _ _ _ ((World.cell?_setCell_other _ _ _ _ (fun h => hne (by injection h))).trans hca)]
  · show w.heap.size ≤ (((w.setCell ⟨be, 0, none⟩ (.int .i64 e)).setCell ⟨ba, 0, none⟩ (.int .i64 at_)).alloc o).heap.size
    simp [World.setCell]
  · rw [hal k hk, Below.heap_setCell _ _ _ _ h2, Below.heap_setCell _ _ _ _ h1]
set_option maxHeartbeats 2000000 in
set_option maxRecDepth 100000 in
theorem guard_panicking (be ba : Nat) (x y : Int) (e at_ : Int) (older : List PanicEntry) (w : World) (hbe : be < w.heap.size) (hba : ba < w.heap.size) (hne : be ≠ ba)
    (hce : w.cell? ⟨be, 0, none⟩ = some (.int .i64 x)) (hfe : w.frozen? ⟨be, 0, none⟩ = false) (hca : w.cell? ⟨ba, 0, none⟩ = some (.int .i64 y)) (hfa : w.frozen? ⟨ba, 0, none⟩ = false) :
    CallsD Tryd.prog 25 #[.pointer (some ⟨be, 0, none⟩), .pointer (some ⟨ba, 0, none⟩)] (.panicking ({ v := faultV e at_, recovered := false } :: older)) w fun x u' w' => x = .returned (.tuple #[]) ∧ u' = .panicking ({ v := faultV e at_, recovered := true } :: older) ∧ Guarded be ba e at_ w w' := by
  unfold faultV
  refine callsD_of_wpS Tryd.func25 rfl fun c₀ cs hu => ?_
  apply wpS_seq
  apply wpS_region
  simp [wpOpsS, go_sem, recoverD, hu, Tryd.ntmps25, Exit.thenS]
  refine wpS_of_wp (Code.wp_mono (Q := GQ2 be ba e at_ w) ?_ ?_)
  · rintro e a' w' ⟨rfl, hd, hg⟩
    cases c₀
    simp_all [bodyPostS, results, Tryd.results25]
  · rw [frame21]
    clear hu
    have hta : ∀ w : World, (Instr.typeAssert (Value.iface 73 (Value.agg #[Value.int IntKind.i64 e, Value.int IntKind.i64 at_])) 20 73 true).run Tryd.prog w = .ok (.tuple #[.agg #[Value.int IntKind.i64 e, Value.int IntKind.i64 at_], .bool true]) w := fun w => by
      simp [Instr.typeAssert, run_underlying Tryd.underlying73]
    have n1 : be ≠ w.heap.size := by omega
    have n2 : ba ≠ w.heap.size := by omega
    have n3 : ba ≠ be := fun h => hne h.symm
    go_wp2_with fail
    go_region
    exact ⟨rfl, rfl, guarded_mk be ba e at_ w _ x y hbe hba hne hce hca⟩
#print axioms guard_panicking
end Go.Proofs.YtbjagceopgofiaaDoor
