/-
  The argument, opened: what an expression that can be read holds in memory.
-/
import Derived.Test.YtbjagceopgofiaaDoorExpr
import Derived.Test.YtbjagceopgofiaaDoorProg
import Derived.KernelRfl
import Derived.Deep.Slices
import Derived.ChangeSame
import Derived.ProofKit
namespace Go.Proofs.YtbjagceopgofiaaDoor
open Go.RowKit Go.ChangeShapes Go.WideShapes Go.Deep

mutual
/-- Lists that a machine's int can count. -/
def okE : E → Prop
  | .mk _ _ _ ls xs => ls.length ≤ 9223372036854775807 ∧ xs.length ≤ 9223372036854775807 ∧ okL xs
def okL : List E → Prop
  | [] => True
  | x :: r => okE x ∧ okL r
end
theorem okL_of : ∀ l : List E, (∀ x ∈ l, okE x) → okL l
  | [], _ => by unfold okL; trivial
  | x :: r, h => by unfold okL; exact ⟨h x (by simp), okL_of r (fun y hy => h y (by simp [hy]))⟩
theorem okL_mem : ∀ l : List E, okL l → ∀ x ∈ l, okE x
  | [], _, x, hx => by simp at hx
  | y :: r, h, x, hx => by
    unfold okL at h
    rcases List.mem_cons.1 hx with rfl | hx
    · exact h.1
    · exact okL_mem r h.2 x hx
section
variable {H : Type} {enc : TypeId × Value → H} {w : World} {base : Nat} {spare : Nat → Bool} {held : Bool}

theorem cellsInt : Tryd.prog.cellsOf 3 = 1 := by kernel_rfl
theorem cellsStr : Tryd.prog.cellsOf 9 = 1 := by kernel_rfl
theorem cellsInts : Tryd.prog.cellsOf 23 = 1 := by kernel_rfl
theorem cellsExprs : Tryd.prog.cellsOf 24 = 1 := by kernel_rfl
theorem cellsExpr : Tryd.prog.cellsOf 26 = 5 := by kernel_rfl
theorem spot_none {a : Addr} {v : Value} (h : w.cell? a = some v) : a = ⟨a.block, a.off, none⟩ := by
  obtain ⟨b, o, s⟩ := a
  cases s with
  | none => rfl
  | some s =>
    unfold World.cell? at h
    split at h <;> simp at h
theorem int_cell {fuel : Nat} {c : Value} {x : DataW H × List MemPlace} (h : DataW.trod enc Tryd.prog w base spare held fuel 3 [c] = some x) : ∃ n, c = .int .i64 n := by
  obtain ⟨n, h1, _, _⟩ := DataW.trod_int Tryd.underlying3 h
  exact ⟨n, by simpa using h1⟩
theorem str_cell {fuel : Nat} {c : Value} {x : DataW H × List MemPlace} (h : DataW.trod enc Tryd.prog w base spare held fuel 9 [c] = some x) : ∃ s : ByteArray, c = .string s := by
  obtain ⟨s, h1, _, _⟩ := DataW.trod_string Tryd.underlying9 h
  exact ⟨s, by simpa using h1⟩
theorem ints_cell {fuel : Nat} {c : Value} {x : DataW H × List MemPlace} (h : DataW.trod enc Tryd.prog w base spare held fuel 23 [c] = some x) :
    ∃ (A : Option Addr) (zs : List Int) (k : Nat), c = .slice A zs.length k ∧ zs.length ≤ maxLen ∧ IntsF w (· < w.heap.size) A zs := by
  rcases open_slice1 Tryd.underlying23 cellsInt h with ⟨h0, _⟩ | ⟨a, len, cap, m, n, V, D, Pl, hcs, _, hl, hm, hmm, _, hx⟩
  · exact ⟨none, [], 0, by simpa using h0, by simp, fun h => absurd h (by simp)⟩
  · have hlm : len ≤ m := by rw [hmm]; split <;> omega
    have hV : ∀ i, i < len → ∃ z, V i = .int .i64 z := fun i hi => int_cell (hx i (by omega)).2
    refine ⟨some a, (List.range len).map fun i => intOf (V i), cap, by simpa using hcs, by simp; omega, fun hz => ?_⟩
    simp only [List.length_map, List.length_range] at hz ⊢
    have h0 := (hx 0 (by omega)).1
    have ha : a.add 0 = a := rfl
    rw [ha] at h0
    refine ⟨a.block, a.off, congrArg some (spot_none h0), World.block_lt_of_cell? w _ h0, fun j hj => ?_⟩
    have hj' := (hx j (by omega)).1
    obtain ⟨z, e⟩ := hV j hj
    have hadd : a.add j = ⟨a.block, a.off + j, none⟩ := by rw [spot_none h0]; exact Addr.add_mid _ _ _
    rw [hadd] at hj'
    rw [hj', e]
    simp [List.getD, hj, e, intOf]
theorem field_of {fuel : Nat} {t : TypeId} {fs : Array Field} {cs : List Value} {x : DataW H × List MemPlace} (ht : Tryd.prog.underlying t = some (.struct fs)) (h : DataW.trod enc Tryd.prog w base spare held fuel t cs = some x) (i : Nat) (t' : TypeId) (off k : Nat) (hf : (fs[i]?).map (fun f => (f.type, f.offset)) = some (t', off)) (hk : Tryd.prog.cellsOf t' = k) :
    ∃ n y, n < fuel ∧ DataW.trod enc Tryd.prog w base spare held n t' ((cs.drop off).take k) = some y := by
  obtain ⟨xs, n, hn, _, _, hlen, hg⟩ := DataW.trod_struct ht h
  obtain ⟨f, hff, he⟩ := Option.map_eq_some_iff.1 hf
  have hi : i < fs.size := (Array.getElem?_eq_some_iff.1 hff).1
  simp only [Prod.mk.injEq] at he
  obtain ⟨rfl, rfl⟩ := he
  subst hk
  exact ⟨n, xs[i]'(by omega), by omega, by rw [hg i f hff, List.getElem?_eq_getElem]⟩
theorem expr_cells : ∀ (fuel : Nat) (cs : List Value) (x : DataW H × List MemPlace), DataW.trod enc Tryd.prog w base spare held fuel 26 cs = some x → cs.length = 5 → ∃ y : E, ExprC w (· < w.heap.size) y cs ∧ okE y := by
  intro fuel
  induction fuel using Nat.strongRecOn with
  | _ fuel ih =>
  intro cs x h hl
  match cs, hl with
  | [c0, c1, c2, c3, c4], _ =>
    obtain ⟨_, _, _, h0⟩ := field_of Tryd.underlying26 h 0 3 0 1 rfl cellsInt
    obtain ⟨_, _, _, h1⟩ := field_of Tryd.underlying26 h 1 9 1 1 rfl cellsStr
    obtain ⟨_, _, _, h2⟩ := field_of Tryd.underlying26 h 2 3 2 1 rfl cellsInt
    obtain ⟨_, _, _, h3⟩ := field_of Tryd.underlying26 h 3 23 3 1 rfl cellsInts
    obtain ⟨n4, _, hn4, h4⟩ := field_of Tryd.underlying26 h 4 24 4 1 rfl cellsExprs
    obtain ⟨k, rfl⟩ := int_cell h0
    obtain ⟨s, rfl⟩ := str_cell h1
    obtain ⟨n, rfl⟩ := int_cell h2
    obtain ⟨A, zs, zk, rfl, hzl, hzi⟩ := ints_cell h3
    have hzm : zs.length ≤ 9223372036854775807 := hzl
    have hss : (⟨s.data.toList.toArray⟩ : ByteArray) = s := by cases s; simp
    rcases DataW.trod_slice Tryd.underlying24 h4 with ⟨h0, _⟩ | ⟨a, len, cap, elems, rest, n5, hn5, hcs, _, _, hl5, hm, hlen0, hel, _, _⟩
    · have h0' : c4 = .slice none 0 0 := by simpa using h0
      subst h0'
      refine ⟨.mk k s.data.toList n zs [], ?_, ?_⟩
      · unfold ExprC
        exact ⟨A, zk, none, 0, by rw [hss]; rfl, hzi, fun h => absurd h (by simp)⟩
      · unfold okE okL
        exact ⟨hzm, by simp, trivial⟩
    · have hc4 : c4 = .slice (some a) len cap := by simpa using hcs
      subst hc4
      rw [cellsExpr] at hel
      have hx : ∀ i, i < len → ∃ cs' y, w.cells? base (a.add (i * 5)) 5 = some cs' ∧ DataW.trod enc Tryd.prog w base spare held n5 26 cs' = some y := fun i hi => by
        have := hel i hi
        rw [List.getElem?_eq_getElem (by omega)] at this
        obtain ⟨cs', h1, h2⟩ := Option.bind_eq_some_iff.1 this
        exact ⟨cs', _, h1, h2⟩
      have hlen : len ≤ 9223372036854775807 := by
        have : maxLen = 9223372036854775807 := rfl
        omega
      by_cases hz : len = 0
      · subst hz
        refine ⟨.mk k s.data.toList n zs [], ?_, ?_⟩
        · unfold ExprC
          exact ⟨A, zk, some a, cap, by rw [hss]; rfl, hzi, fun h => absurd h (by simp)⟩
        · unfold okE okL
          exact ⟨hzm, by simp, trivial⟩
      · obtain ⟨cc0, _, g0, _⟩ := hx 0 (by omega)
        obtain ⟨_, l0, q0⟩ := World.cells?_some g0
        have hc0 := q0 0 (by omega)
        rw [List.getElem?_eq_getElem (by omega)] at hc0
        have ha : (a.add (0 * 5)).add 0 = a := rfl
        rw [ha] at hc0
        have hlt := World.block_lt_of_cell? w _ hc0
        have hsp := spot_none hc0
        have hadd : ∀ j, a.add j = ⟨a.block, a.off + j, none⟩ := fun j => by rw [hsp]; exact Addr.add_mid _ _ _
        have key : ∀ i, i < len → ∃ y : E, (∃ cs, w.rangeAt a.block (a.off + i * 5) cs ∧ ExprC w (· < w.heap.size) y cs) ∧ okE y := fun i hi => by
          obtain ⟨cs, _, g, ht⟩ := hx i (by omega)
          obtain ⟨_, hlen', q⟩ := World.cells?_some g
          obtain ⟨y, hy, hok⟩ := ih n5 (by omega) cs _ ht hlen'
          refine ⟨y, ⟨cs, fun j u hu => ?_, hy⟩, hok⟩
          have hj : j < 5 := by rw [← hlen']; exact (List.getElem?_eq_some_iff.1 hu).1
          have := q j hj
          rw [hu, Deep.add_add, hadd] at this
          rw [← this, Nat.add_assoc]
        obtain ⟨f, hf⟩ : ∃ f : Nat → E, ∀ i, i < len → (∃ cs, w.rangeAt a.block (a.off + i * 5) cs ∧ ExprC w (· < w.heap.size) (f i) cs) ∧ okE (f i) :=
          ⟨fun i => if h : i < len then Classical.choose (key i h) else .mk 0 [] 0 [] [], fun i hi => by simp only [hi, dif_pos]; exact Classical.choose_spec (key i hi)⟩
        have hbuild : ∀ (n0 o0 : Nat), (∀ i, i < n0 → o0 + i < len) → ExprsC w (· < w.heap.size) a.block (a.off + o0 * 5) ((List.range n0).map fun i => f (o0 + i)) := by
          intro n0
          induction n0 with
          | zero => intro o0 _; simp [ExprsC]
          | succ n0 ihn =>
            intro o0 ho
            rw [List.range_succ_eq_map, List.map_cons, List.map_map]
            unfold ExprsC
            refine ⟨(hf (o0 + 0) (ho 0 (by omega))).1, ?_⟩
            have := ihn (o0 + 1) (fun i hi => by have := ho (i + 1) (by omega); omega)
            rw [show a.off + o0 * 5 + 5 = a.off + (o0 + 1) * 5 by omega]
            have he : ((fun i => f (o0 + i)) ∘ Nat.succ) = fun i => f (o0 + 1 + i) := by
              funext i
              simp only [Function.comp]
              congr 1
              omega
            rw [he]
            exact this
        have hxs := hbuild len 0 (fun i hi => by omega)
        simp only [Nat.zero_mul, Nat.add_zero, Nat.zero_add] at hxs
        refine ⟨.mk k s.data.toList n zs ((List.range len).map f), ?_, ?_⟩
        · unfold ExprC
          exact ⟨A, zk, some a, cap, by rw [hss]; simp, hzi, fun _ => ⟨a.block, a.off, congrArg some hsp, hlt, hxs⟩⟩
        · unfold okE
          refine ⟨hzm, by simpa using hlen, okL_of _ fun y hy => ?_⟩
          obtain ⟨i, hi, rfl⟩ := List.mem_map.1 hy
          exact (hf i (List.mem_range.1 hi)).2
#print axioms expr_cells
end
end Go.Proofs.YtbjagceopgofiaaDoor
