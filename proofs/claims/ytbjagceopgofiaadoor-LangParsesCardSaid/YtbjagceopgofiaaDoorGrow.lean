/-
  What stands in a world stands in every world that has only grown since: builders, tables; and strconv.Itoa's contract with that frame.
-/
import Derived.Test.YtbjagceopgofiaaDoorKit
import Derived.Test.YtbjagceopgofiaaDoorBuilder
import Derived.Test.YtbjagceopgofiaaDoorShelf
import Derived.Lib.OthersKept
import Derived.Lib.LaidTab
import Derived.Lib.ItoaMem
import Derived.Lib.ItoaLen
import Derived.Sort.Grow
namespace Go.Proofs.YtbjagceopgofiaaDoor
open Go.RowKit

theorem only_of_below {a w : World} (h : Below a.heap.size a w) (row : Option Nat) : a.grownBy w row := ⟨h.os, h.tape, h.output, h.size, fun i hi _ => h.block i hi⟩
theorem builderAt_grow {T e : TypeId} {B b : Nat} {p : Value} {bs : List Value} {w w' : World} (h : Lib.BuilderAtF T e B b p bs w) (hb : Below w.heap.size w w') : Lib.BuilderAtF T e B b p bs w' := by
  have hlt := h.lt
  obtain ⟨hB, v, hk, hown, hne⟩ := h
  refine ⟨hB, v, (hb.block b hlt).trans hk, hown.kept (only_of_below hb none) ?_, hne⟩
  cases hv : v.ownBlock <;> simp
theorem isBuilder_grow {T e : TypeId} {B b : Nat} {bs : List Value} {w w' : World} (h : Lib.IsBuilderF T e B b bs w) (hb : Below w.heap.size w w') : Lib.IsBuilderF T e B b bs w' :=
  h.elim (fun x => .inl (builderAt_grow x hb)) (fun x => .inr (builderAt_grow x hb))
theorem isBuilder_lt {T e : TypeId} {B b : Nat} {bs : List Value} {w : World} (h : Lib.IsBuilderF T e B b bs w) : b < w.heap.size := h.elim (fun x => x.lt) (fun x => x.lt)
theorem isBuilder_fresh (T e : TypeId) (w : World) : Lib.IsBuilderF T e w.heap.size w.heap.size [] (w.alloc (.cells #[.pointer none, .slice none 0 0] T)) := Lib.IsBuilderF.of (Lib.fresh_isBuilder T e w)

/-- The table of the powers of ten. -/
def Pows (w : World) : Prop := Lib.TabIs Tryd.prog w "internal/strconv.uint64pow10" .u64 Lib.pow10Tab
theorem gPows : Tryd.prog.globalNamed "internal/strconv.uint64pow10" = some 1 := by kernel_rfl
theorem Pows.lt {w : World} (h : Pows w) : 1 < w.heap.size := by
  unfold Pows Lib.TabIs World.var? at h
  rw [gPows] at h
  rcases Nat.lt_or_ge 1 w.heap.size with h' | h'
  · exact h'
  · simp [Array.getElem?_eq_none h'] at h
theorem Pows.keep {w w' : World} {B : Nat} (h : Pows w) (hB : 1 < B) (hb : Below B w w') : Pows w' := by
  unfold Pows Lib.TabIs World.var? at h ⊢
  rw [gPows] at h ⊢
  simp only [Option.bind_some] at h ⊢
  rw [hb.block _ hB]
  exact h
theorem Pows.grow {w w' : World} (h : Pows w) (hb : Below w.heap.size w w') : Pows w' := h.keep h.lt hb

theorem below_of_grow (w : World) (k : Nat) (os : Array Obj) : Below w.heap.size w (Sort.grow (w.drewN k) os) :=
  ⟨rfl, rfl, rfl, by simp [World.drewN], fun i hi => Sort.heap_grow_old (w.drewN k) os hi⟩
theorem itoa_c (n : Int) (w : World) (h0 : -9223372036854775808 ≤ n) (h1 : n ≤ 9223372036854775807) (ht : Pows w) :
    Calls Tryd.prog 64 #[.int .i64 n] w fun e w' => e = .returned (.string ⟨(Lib.itoa n).toArray⟩) ∧ Below w.heap.size w w' :=
  (Tryd.strconv_Itoa n h0 h1 w ht).mono fun _ _ ⟨he, k, os, hw⟩ => ⟨he, by rw [hw]; exact below_of_grow w k os⟩
#print axioms itoa_c
end Go.Proofs.YtbjagceopgofiaaDoor
