/-
  Rows of integers in memory: rows of the call's own, slices that are read.
-/
import Derived.Test.YtcfejnnhcdlffaaGreatFa
import Derived.Laws.OwnMore
import Derived.OwnWalk
import Derived.Deep.AppendLies
import Derived.Laws.MakeOwn
namespace Go.Proofs.YtcfejnnhcdlffaaGreat
open Go.RowKit

def nz (l : List Nat) : List Int := l.map fun x : Nat => (x : Int)
theorem nz_len (l : List Nat) : (nz l).length = l.length := by simp [nz]
theorem nz_getD (l : List Nat) (j : Nat) : (nz l).getD j 0 = ((l.getD j 0 : Nat) : Int) := by
  unfold nz
  simp only [List.getD, List.getElem?_map]
  cases l[j]? <;> simp
theorem nz_set (l : List Nat) (j x : Nat) : (nz l).set j (x : Int) = nz (l.set j x) := by simp [nz, List.map_set]
theorem nz_take (l : List Nat) (j : Nat) : (nz l).take j = nz (l.take j) := by simp [nz, List.map_take]

theorem infoInt : (Tryz.prog.info? 3).map (fun i => (i.zero, i.size, i.bytes)) = some (some (.int .i64 0), 1, 8) := by kernel_rfl
theorem info_parts {P : Program} {t : TypeId} {z : Option Value} {s b : Nat} (h : (P.info? t).map (fun i => (i.zero, i.size, i.bytes)) = some (z, s, b)) : ∃ i, P.info? t = some i ∧ i.zero = z ∧ i.size = s ∧ i.bytes = b := by
  obtain ⟨i, hi, he⟩ := Option.map_eq_some_iff.1 h
  simp only [Prod.mk.injEq] at he
  exact ⟨i, hi, he.1, he.2.1, he.2.2⟩

theorem below_of_grown {w w' : World} (h : w.grownBy w' none) : Below w.heap.size w w' := ⟨h.os, h.tape, h.output, h.size, fun k hk => h.block k hk (by simp)⟩
/-- A row of the call's own: block g holds the integers zs. -/
def Row (w : World) (B g c : Nat) (zs : List Int) : Prop := w.ownsRow B 3 1 (.slice (some ⟨g, 0, none⟩) zs.length c) zs.length (zs.map (Value.int .i64))
section
variable {w w' : World} {B g c : Nat} {zs : List Int}
theorem Row.cell (h : Row w B g c zs) {j : Nat} (hj : j < zs.length) : w.cell? ⟨g, j, none⟩ = some (.int .i64 (zs.getD j 0)) := by
  rw [World.ownsRow.cellAt h j (by omega)]
  simp [List.getD, hj]
theorem Row.frozen (h : Row w B g c zs) (j : Nat) : w.frozen? ⟨g, j, none⟩ = false := World.ownsRow.frozenAt h j
theorem Row.lt (h : Row w B g c zs) : B ≤ g ∧ g < w.heap.size := World.ownsRow.lt h g rfl
theorem Row.set (h : Row w B g c zs) (j : Nat) (x : Int) : Row (w.setCell ⟨g, j, none⟩ (.int .i64 x)) B g c (zs.set j x) := by
  have := (World.ownsRow.stored h j (.int .i64 x)).1
  unfold Row
  rw [List.length_set, List.map_set]
  exact this
theorem Row.grown {row : Option Nat} (h : Row w B g c zs) (hg : w.grownBy w' row) (hne : some g ≠ row) : Row w' B g c zs := World.ownsRow.kept h hg (.inr hne)
theorem Row.below (h : Row w B g c zs) {B' : Nat} (hb : Below B' w w') (hg : g < B') : Row w' B g c zs := by
  refine ⟨h.1, ?_⟩
  rcases h.2 with ⟨h1, _⟩ | ⟨g', cap, cur, hv, hB, hh, r⟩
  · cases h1
  · have : g' = g := by
      simp only [Value.slice.injEq, Option.some.injEq, Addr.mk.injEq, and_true, true_and] at hv
      exact hv.1.symm
    exact .inr ⟨g', cap, cur, hv, hB, (hb.block g' (by omega)).trans hh, r⟩
theorem Row.far (h : Row w B g c zs) {p : Addr} (hp : g ≠ p.block) (u : Value) : Row (w.setCell p u) B g c zs := by
  refine ⟨h.1, ?_⟩
  rcases h.2 with ⟨h1, _⟩ | ⟨g', cap, cur, hv, hB, hh, r⟩
  · cases h1
  · have : g' = g := by
      simp only [Value.slice.injEq, Option.some.injEq, Addr.mk.injEq, and_true, true_and] at hv
      exact hv.1.symm
    exact .inr ⟨g', cap, cur, hv, hB, (Below.heap_setCell w p u g' (by omega)).trans hh, r⟩
theorem Row.alloc (h : Row w B g c zs) (o : Obj) : Row (w.alloc o) B g c zs := World.ownsRow.alloc h o
theorem Row.base {B' : Nat} (h : Row w B g c zs) (hB : B' ≤ g) : Row w B' g c zs := by
  refine ⟨h.1, ?_⟩
  rcases h.2 with ⟨h1, _⟩ | ⟨g', cap, cur, hv, hb, hh, r⟩
  · cases h1
  · have : g' = g := by
      simp only [Value.slice.injEq, Option.some.injEq, Addr.mk.injEq, and_true, true_and] at hv
      exact hv.1.symm
    exact .inr ⟨g', cap, cur, hv, by omega, hh, r⟩
theorem Row.cur (h : Row w B g c zs) : ∃ cur : List Value, w.heap[g]? = some (.cells cur.toArray 3 (0, 0)) ∧ zs.length ≤ cur.length ∧ cur.take zs.length = zs.map (Value.int .i64) ∧
    ∀ (w' : World) (cur' : List Value) (zs' : List Int), w'.heap[g]? = some (.cells cur'.toArray 3 (0, 0)) → cur'.length = cur.length → zs'.length = zs.length → cur'.take zs.length = zs'.map (Value.int .i64) → Row w' B g c zs' := by
  rcases h.2 with ⟨h1, _⟩ | ⟨g', cap, cur, hv, hB, hh, h1, h2, h3, h4⟩
  · cases h1
  · have hv' := hv
    simp only [Value.slice.injEq, Option.some.injEq, Addr.mk.injEq, and_true, true_and] at hv'
    obtain ⟨rfl, rfl⟩ := hv'
    refine ⟨cur.toList, by simpa using hh, by simp; omega, by simpa using h4, fun w' cur' zs' e1 e2 e3 e4 => ⟨by simp [e3], .inr ⟨g, c, cur'.toArray, by rw [e3], hB, e1, by omega, h2, by simp [e2]; omega, ?_⟩⟩⟩
    rw [e3]
    simpa using e4
theorem Row.of_make {n : Nat} (h : w.ownsRow B 3 1 (.slice (some ⟨g, 0, none⟩) n c) n (madeCells (Value.int .i64 0).cells (n * 1)).toList) : Row w B g c (nz (List.replicate n 0)) := by
  unfold Row
  have e : (madeCells (Value.int .i64 0).cells (n * 1)).toList = (nz (List.replicate n 0)).map (Value.int .i64) := by
    apply List.ext_getElem
    · simp [madeCells, nz]
    · intro i h1 h2
      simp [madeCells, nz, Value.cells, Nat.mod_one]
  rw [nz_len, List.length_replicate, ← e]
  exact h
end

/-- A slice that reads as the integers zs, below block B. -/
def IntsAt (w : World) (B : Nat) (A : Option Addr) (zs : List Int) : Prop :=
  0 < zs.length → ∃ b o, A = some ⟨b, o, none⟩ ∧ b < B ∧ ∀ j, j < zs.length → w.cell? ⟨b, o + j, none⟩ = some (.int .i64 (zs.getD j 0))
theorem IntsAt.keep {w w' : World} {B : Nat} {A : Option Addr} {zs : List Int} (h : IntsAt w B A zs) (hb : Below B w w') : IntsAt w' B A zs := fun hz => by
  obtain ⟨b, o, e, hlt, hc⟩ := h hz
  exact ⟨b, o, e, hlt, fun j hj => (hb.cell (p := ⟨b, o + j, none⟩) hlt).trans (hc j hj)⟩
theorem IntsAt.more {w : World} {B B' : Nat} {A : Option Addr} {zs : List Int} (h : IntsAt w B A zs) (hB : B ≤ B') : IntsAt w B' A zs := fun hz => by
  obtain ⟨b, o, e, hlt, hc⟩ := h hz
  exact ⟨b, o, e, by omega, hc⟩
theorem IntsAt.grow {w w' : World} {B : Nat} {A : Option Addr} {zs : List Int} (h : IntsAt w B A zs) (hB : B ≤ w.heap.size) (hb : Below w.heap.size w w') : IntsAt w' B A zs := h.keep (hb.mono hB)
theorem IntsAt.at_ {w : World} {B : Nat} {A : Option Addr} {zs : List Int} (h : IntsAt w B A zs) {k : Nat} (hk : k < zs.length) : ∃ b o, A = some ⟨b, o, none⟩ ∧ b < B ∧ w.cell? ⟨b, o + k, none⟩ = some (.int .i64 (zs.getD k 0)) := by
  obtain ⟨b, o, e, hlt, hc⟩ := h (by omega)
  exact ⟨b, o, e, hlt, hc k hk⟩
theorem Row.ints {w : World} {B g c B' : Nat} {zs : List Int} (h : Row w B g c zs) (hB : g < B') : IntsAt w B' (some ⟨g, 0, none⟩) zs := fun _ =>
  ⟨g, 0, rfl, hB, fun j hj => by rw [Nat.zero_add]; exact h.cell hj⟩
end Go.Proofs.YtcfejnnhcdlffaaGreat
