/-
  The argument, opened: what a list of steps that can be read holds in memory.
-/
import Derived.Test.YtgnggmknbajmcaaDoorData
import Derived.Deep.Slices
import Derived.ChangeSame
import Derived.ProofKit
namespace Go.Proofs.YtgnggmknbajmcaaDoor
open Go.RowKit Go.ChangeShapes Go.WideShapes Go.Deep

section
variable {H : Type} {enc : TypeId × Value → H} {w : World} {base : Nat} {spare : Nat → Bool} {held : Bool}

theorem cells3 : Tryd.prog.cellsOf 3 = 1 := by kernel_rfl
theorem cells23 : Tryd.prog.cellsOf 23 = 1 := by kernel_rfl
theorem cells25 : Tryd.prog.cellsOf 25 = 3 := by kernel_rfl
theorem cells26 : Tryd.prog.cellsOf 26 = 1 := by kernel_rfl
theorem cells28 : Tryd.prog.cellsOf 28 = 5 := by kernel_rfl
theorem cells30 : Tryd.prog.cellsOf 30 = 5 := by kernel_rfl
theorem cells32 : Tryd.prog.cellsOf 32 = 3 := by kernel_rfl
theorem cells34 : Tryd.prog.cellsOf 34 = 1 := by kernel_rfl
theorem cells36 : Tryd.prog.cellsOf 36 = 23 := by kernel_rfl

theorem ok_of_wf {n : Int} (h : (Lit.int .i64 n).wf = true) : okI n := by
  simp only [Lit.wf, Bool.and_eq_true, decide_eq_true_eq] at h
  have h1 : IntKind.i64.min = -9223372036854775808 := by decide
  have h2 : IntKind.i64.max = 9223372036854775807 := by decide
  rw [h1, h2] at h
  exact h

theorem spot_none {a : Addr} {v : Value} (h : w.cell? a = some v) : a = ⟨a.block, a.off, none⟩ := by
  obtain ⟨b, o, s⟩ := a
  cases s with
  | none => rfl
  | some s =>
    unfold World.cell? at h
    split at h <;> simp at h

theorem int_cell {fuel : Nat} {c : Value} {x : DataW H × List MemPlace} (h : DataW.trod enc Tryd.prog w base spare held fuel 3 [c] = some x) : ∃ n, c = .int .i64 n ∧ okI n := by
  obtain ⟨n, h1, _, h3⟩ := DataW.trod_int Tryd.underlying3 h
  exact ⟨n, by simpa using h1, ok_of_wf h3⟩

theorem ints_cell {fuel : Nat} {c : Value} {x : DataW H × List MemPlace} (h : DataW.trod enc Tryd.prog w base spare held fuel 23 [c] = some x) :
    ∃ (A : Option Addr) (zs : List Int) (k : Nat), c = .slice A zs.length k ∧ zs.length ≤ maxLen ∧ (∀ z ∈ zs, okI z) ∧ IntsAt w w.heap.size A zs := by
  rcases open_slice1 Tryd.underlying23 cells3 h with ⟨h0, _⟩ | ⟨a, len, cap, m, n, V, D, Pl, hcs, _, hl, hm, hmm, _, hx⟩
  · exact ⟨none, [], 0, by simpa using h0, by simp, by simp, fun h => absurd h (by simp)⟩
  · have hlm : len ≤ m := by rw [hmm]; split <;> omega
    have hV : ∀ i, i < len → ∃ z, V i = .int .i64 z ∧ okI z := fun i hi => int_cell (hx i (by omega)).2
    refine ⟨some a, (List.range len).map fun i => intOf (V i), cap, by simpa using hcs, by simp; omega, ?_, fun hz => ?_⟩
    · intro z hz
      obtain ⟨i, hi, rfl⟩ := List.mem_map.1 hz
      obtain ⟨z, e, hz⟩ := hV i (List.mem_range.1 hi)
      rw [e]
      exact hz
    · simp only [List.length_map, List.length_range] at hz ⊢
      have h0 := (hx 0 (by omega)).1
      have ha : a.add 0 = a := rfl
      rw [ha] at h0
      refine ⟨a.block, a.off, congrArg some (spot_none h0), World.block_lt_of_cell? w _ h0, fun j hj => ?_⟩
      have hj' := (hx j (by omega)).1
      obtain ⟨z, e, _⟩ := hV j hj
      have hadd : a.add j = ⟨a.block, a.off + j, none⟩ := by rw [spot_none h0]; exact Addr.add_mid _ _ _
      rw [hadd] at hj'
      rw [hj', e]
      simp [List.getD, hj, e, intOf]

theorem slice_cell {fuel : Nat} {t e : TypeId} {c : Value} {x : DataW H × List MemPlace} (ht : Tryd.prog.underlying t = some (.slice e)) (h : DataW.trod enc Tryd.prog w base spare held fuel t [c] = some x) :
    ∃ (A : Option Addr) (n k : Nat), c = .slice A n k ∧ n ≤ maxLen := by
  rcases DataW.trod_slice ht h with ⟨h0, _⟩ | ⟨a, len, cap, _, _, _, _, hcs, _, _, hl, hm, _⟩
  · exact ⟨none, 0, 0, by simpa using h0, by simp⟩
  · exact ⟨some a, len, cap, by simpa using hcs, by omega⟩

theorem field_of {fuel : Nat} {t : TypeId} {fs : Array Field} {cs : List Value} {x : DataW H × List MemPlace} (ht : Tryd.prog.underlying t = some (.struct fs)) (h : DataW.trod enc Tryd.prog w base spare held fuel t cs = some x) (i : Nat) (t' : TypeId) (off k : Nat) (hf : (fs[i]?).map (fun f => (f.type, f.offset)) = some (t', off)) (hk : Tryd.prog.cellsOf t' = k) :
    ∃ n y, DataW.trod enc Tryd.prog w base spare held n t' ((cs.drop off).take k) = some y := by
  obtain ⟨xs, n, _, _, _, hlen, hg⟩ := DataW.trod_struct ht h
  obtain ⟨f, hff, he⟩ := Option.map_eq_some_iff.1 hf
  have hi : i < fs.size := (Array.getElem?_eq_some_iff.1 hff).1
  simp only [Prod.mk.injEq] at he
  obtain ⟨rfl, rfl⟩ := he
  subst hk
  exact ⟨n, xs[i]'(by omega), by rw [hg i f hff, List.getElem?_eq_getElem]⟩

theorem field_cells {fuel : Nat} {a b c : Value} {x : DataW H × List MemPlace} (h : DataW.trod enc Tryd.prog w base spare held fuel 25 [a, b, c] = some x) :
    ∃ p m A n k, a = .int .i64 p ∧ b = .int .i64 m ∧ c = .slice A n k ∧ okI p ∧ okI m := by
  obtain ⟨_, _, h0⟩ := field_of Tryd.underlying25 h 0 3 0 1 rfl cells3
  obtain ⟨_, _, h1⟩ := field_of Tryd.underlying25 h 1 3 1 1 rfl cells3
  obtain ⟨_, _, h2⟩ := field_of Tryd.underlying25 h 2 23 2 1 rfl cells23
  obtain ⟨p, e0, o0⟩ := int_cell h0
  obtain ⟨m, e1, o1⟩ := int_cell h1
  obtain ⟨A, n, k, e2, _⟩ := slice_cell Tryd.underlying23 h2
  exact ⟨p, m, A, n, k, e0, e1, e2, o0, o1⟩

theorem step_cells {fuel : Nat} {cs : List Value} {x : DataW H × List MemPlace} {b o : Nat} (hb : b < w.heap.size) (hr : w.rangeAt b o cs) (hl : cs.length = 23) (h : DataW.trod enc Tryd.prog w base spare held fuel 36 cs = some x) :
    ∃ d : StepD, StepAt w w.heap.size b o d := by
  match cs, hl with
  | [c0, c1, c2, c3, c4, c5, c6, c7, c8, c9, c10, c11, c12, c13, c14, c15, c16, c17, c18, c19, c20, c21, c22], _ =>
    obtain ⟨_, _, h0⟩ := field_of Tryd.underlying36 h 0 3 0 1 rfl cells3
    obtain ⟨_, _, h1⟩ := field_of Tryd.underlying36 h 1 28 1 5 rfl cells28
    obtain ⟨_, _, h2⟩ := field_of Tryd.underlying36 h 2 3 6 1 rfl cells3
    obtain ⟨_, _, h3⟩ := field_of Tryd.underlying36 h 3 23 7 1 rfl cells23
    obtain ⟨_, _, h4⟩ := field_of Tryd.underlying36 h 4 23 8 1 rfl cells23
    obtain ⟨_, _, h5⟩ := field_of Tryd.underlying36 h 5 25 9 3 rfl cells25
    obtain ⟨_, _, h6⟩ := field_of Tryd.underlying36 h 6 30 12 5 rfl cells30
    obtain ⟨_, _, h7⟩ := field_of Tryd.underlying36 h 7 23 17 1 rfl cells23
    obtain ⟨_, _, h8⟩ := field_of Tryd.underlying36 h 8 23 18 1 rfl cells23
    obtain ⟨_, _, h9⟩ := field_of Tryd.underlying36 h 9 32 19 3 rfl cells32
    obtain ⟨_, _, h10⟩ := field_of Tryd.underlying36 h 10 34 22 1 rfl cells34
    obtain ⟨rule, rfl, or⟩ := int_cell h0
    obtain ⟨_, _, f0⟩ := field_of Tryd.underlying28 h1 0 25 0 3 rfl cells25
    obtain ⟨_, _, f1⟩ := field_of Tryd.underlying28 h1 1 3 3 1 rfl cells3
    obtain ⟨_, _, f2⟩ := field_of Tryd.underlying28 h1 2 26 4 1 rfl cells26
    obtain ⟨p, m, A3, n3, k3, rfl, rfl, rfl, op, om⟩ := field_cells f0
    obtain ⟨n, rfl, on⟩ := int_cell f1
    obtain ⟨A5, n5, k5, rfl, on5⟩ := slice_cell Tryd.underlying26 f2
    obtain ⟨low, rfl, ol⟩ := int_cell h2
    obtain ⟨A7, zs, k7, rfl, olz, oz, hI⟩ := ints_cell h3
    obtain ⟨A8, n8, k8, rfl, _⟩ := slice_cell Tryd.underlying23 h4
    obtain ⟨p9, m9, A9, n9, k9, rfl, rfl, rfl, _, _⟩ := field_cells h5
    obtain ⟨_, _, r0⟩ := field_of Tryd.underlying30 h6 0 3 0 1 rfl cells3
    obtain ⟨_, _, r1⟩ := field_of Tryd.underlying30 h6 1 3 1 1 rfl cells3
    obtain ⟨_, _, r2⟩ := field_of Tryd.underlying30 h6 2 3 2 1 rfl cells3
    obtain ⟨_, _, r3⟩ := field_of Tryd.underlying30 h6 3 3 3 1 rfl cells3
    obtain ⟨_, _, r4⟩ := field_of Tryd.underlying30 h6 4 3 4 1 rfl cells3
    obtain ⟨z0, rfl, _⟩ := int_cell r0
    obtain ⟨z1, rfl, _⟩ := int_cell r1
    obtain ⟨z2, rfl, _⟩ := int_cell r2
    obtain ⟨z3, rfl, _⟩ := int_cell r3
    obtain ⟨z4, rfl, _⟩ := int_cell r4
    obtain ⟨A17, n17, k17, rfl, _⟩ := slice_cell Tryd.underlying23 h7
    obtain ⟨A18, n18, k18, rfl, _⟩ := slice_cell Tryd.underlying23 h8
    obtain ⟨_, _, m0⟩ := field_of Tryd.underlying32 h9 0 23 0 1 rfl cells23
    obtain ⟨_, _, m1⟩ := field_of Tryd.underlying32 h9 1 23 1 1 rfl cells23
    obtain ⟨_, _, m2⟩ := field_of Tryd.underlying32 h9 2 3 2 1 rfl cells3
    obtain ⟨A19, n19, k19, rfl, _⟩ := slice_cell Tryd.underlying23 m0
    obtain ⟨A20, n20, k20, rfl, _⟩ := slice_cell Tryd.underlying23 m1
    obtain ⟨z5, rfl, _⟩ := int_cell m2
    obtain ⟨_, _, t0⟩ := field_of Tryd.underlying34 h10 0 26 0 1 rfl cells26
    obtain ⟨A22, n22, k22, rfl, _⟩ := slice_cell Tryd.underlying26 t0
    unfold maxLen at on5 olz
    refine ⟨⟨rule, p, m, n, n5, low, zs⟩, hb, ⟨or, op, om, on, on5, ol, olz, oz⟩, _, _, _, _, _, _, _, _, _, _, _, _, _, _, _, _, _, _, _, _, hr, ?_, hI⟩
    simp only [List.mem_cons, List.not_mem_nil, or_false, forall_eq_or_imp, forall_eq]
    simp [Value.oneCell']

theorem steps_open {v : Value} {d : DataW H} {p : List MemPlace} (h : DataW.Trod enc Tryd.prog w base spare held 22 v d p) (hv : v.cells = #[v]) :
    ∃ (A : Option Addr) (ds : List StepD) (k : Nat), v = .slice A ds.length k ∧ ds.length ≤ maxLen ∧ StepsAt w w.heap.size A ds ∧ ∀ d ∈ ds, d.ok := by
  obtain ⟨fuel, hf⟩ := h
  rw [hv] at hf
  rcases open_slice Tryd.underlying22 hf with ⟨h0, _⟩ | ⟨a, len, cap, m, n, D, Pl, hcs, _, hl, hm, hmm, _, hx⟩
  · exact ⟨none, [], 0, by simpa using h0, by simp, fun h => absurd h (by simp), by simp⟩
  · have hlm : len ≤ m := by rw [hmm]; split <;> omega
    rw [cells36] at hx
    by_cases h0 : len = 0
    · subst h0
      exact ⟨some a, [], cap, by simpa using hcs, by simp, fun h => absurd h (by simp), by simp⟩
    · obtain ⟨c0, g0, _⟩ := hx 0 (by omega)
      obtain ⟨_, l0, q0⟩ := World.cells?_some g0
      have hc0 := q0 0 (by omega)
      rw [List.getElem?_eq_getElem (by omega)] at hc0
      have ha : (a.add (0 * 23)).add 0 = a := rfl
      rw [ha] at hc0
      have hlt := World.block_lt_of_cell? w _ hc0
      have hsp := spot_none hc0
      have hadd : ∀ j, a.add j = ⟨a.block, a.off + j, none⟩ := fun j => by rw [hsp]; exact Addr.add_mid _ _ _
      have key : ∀ i, i < len → ∃ d : StepD, StepAt w w.heap.size a.block (a.off + i * 23) d := fun i hi => by
        obtain ⟨cs, g, ht⟩ := hx i (by omega)
        obtain ⟨_, hlen, q⟩ := World.cells?_some g
        refine step_cells hlt (fun j u hu => ?_) hlen ht
        have hj : j < 23 := by rw [← hlen]; exact (List.getElem?_eq_some_iff.1 hu).1
        have := q j hj
        rw [hu, add_of_add, hadd] at this
        rw [← this, Nat.add_assoc]
      obtain ⟨f, hf⟩ : ∃ f : Nat → StepD, ∀ i, i < len → StepAt w w.heap.size a.block (a.off + i * 23) (f i) :=
        ⟨fun i => if h : i < len then Classical.choose (key i h) else ⟨0, 0, 0, 0, 0, 0, []⟩, fun i hi => by simp only [hi, dif_pos]; exact Classical.choose_spec (key i hi)⟩
      refine ⟨some a, (List.range len).map f, cap, by simpa using hcs, by simp; omega, fun _ => ⟨a.block, a.off, congrArg some hsp, fun i d hd => ?_⟩, fun d hd => ?_⟩
      · have hi : i < len := by have := (List.getElem?_eq_some_iff.1 hd).1; simpa using this
        have : d = f i := by simpa [hi] using hd.symm
        rw [this]
        exact hf i hi
      · obtain ⟨i, hi, rfl⟩ := List.mem_map.1 hd
        exact (hf i (List.mem_range.1 hi)).2.1
end
#print axioms steps_open
end Go.Proofs.YtgnggmknbajmcaaDoor
