/-
  Expressions in memory: the cells of an expression, and all that they lead to, in blocks of a set F.
-/
import Derived.Test.YtbjagceopgofiaaDoorPars
import Derived.Test.YtbjagceopgofiaaDoorKit
import Derived.Deep.MidRow
namespace Go.Proofs.YtbjagceopgofiaaDoor
open Go.RowKit

/-- A slice that reads as the integers zs, in a block of F. -/
def IntsF (w : World) (F : Nat → Prop) (A : Option Addr) (zs : List Int) : Prop :=
  0 < zs.length → ∃ b o, A = some ⟨b, o, none⟩ ∧ F b ∧ ∀ j, j < zs.length → w.cell? ⟨b, o + j, none⟩ = some (.int .i64 (zs.getD j 0))

mutual
/-- The five cells of an expression. -/
def ExprC (w : World) (F : Nat → Prop) : E → List Value → Prop
  | .mk k nm n ls as, cs => ∃ la lc aa ac, cs = [.int .i64 k, .string ⟨nm.toArray⟩, .int .i64 n, .slice la ls.length lc, .slice aa as.length ac] ∧ IntsF w F la ls ∧
      (0 < as.length → ∃ b o, aa = some ⟨b, o, none⟩ ∧ F b ∧ ExprsC w F b o as)
/-- Expressions that lie one behind the other in block b from offset o on. -/
def ExprsC (w : World) (F : Nat → Prop) : Nat → Nat → List E → Prop
  | _, _, [] => True
  | b, o, x :: r => (∃ cs, w.rangeAt b o cs ∧ ExprC w F x cs) ∧ ExprsC w F b (o + 5) r
end

theorem IntsF.mono {w w' : World} {F F' : Nat → Prop} {A : Option Addr} {zs : List Int} (h : IntsF w F A zs) (hF : ∀ b, F b → b < w.heap.size → F' b ∧ w'.heap[b]? = w.heap[b]?) : IntsF w' F' A zs := fun hz => by
  obtain ⟨b, o, e, hb, hc⟩ := h hz
  have hlt := World.block_lt_of_cell? w _ (hc 0 hz)
  obtain ⟨h1, h2⟩ := hF b hb hlt
  exact ⟨b, o, e, h1, fun j hj => (World.cell?_of_block (a := ⟨b, o + j, none⟩) h2).trans (hc j hj)⟩
theorem ExprC.len {w : World} {F : Nat → Prop} {x : E} {cs : List Value} (h : ExprC w F x cs) : cs.length = 5 := by
  cases x
  unfold ExprC at h
  obtain ⟨la, lc, aa, ac, rfl, _⟩ := h
  rfl
theorem ExprC.one {w : World} {F : Nat → Prop} {x : E} {cs : List Value} (h : ExprC w F x cs) : ∀ v ∈ cs, v.oneCell' = true := by
  cases x
  unfold ExprC at h
  obtain ⟨la, lc, aa, ac, rfl, _⟩ := h
  intro v hv
  simp at hv
  rcases hv with rfl | rfl | rfl | rfl | rfl <;> rfl
theorem range_lt {w : World} {b o : Nat} {cs : List Value} (h : w.rangeAt b o cs) (hl : 0 < cs.length) : b < w.heap.size :=
  World.block_lt_of_cell? w ⟨b, o + 0, none⟩ (h 0 cs[0] (List.getElem?_eq_getElem hl))
mutual
theorem ExprC.mono {w w' : World} {F F' : Nat → Prop} (hF : ∀ b, F b → b < w.heap.size → F' b ∧ w'.heap[b]? = w.heap[b]?) : ∀ (x : E) (cs : List Value), ExprC w F x cs → ExprC w' F' x cs
  | .mk k nm n ls as, cs, h => by
    unfold ExprC at h ⊢
    obtain ⟨la, lc, aa, ac, e, hi, ha⟩ := h
    refine ⟨la, lc, aa, ac, e, hi.mono hF, fun hz => ?_⟩
    obtain ⟨b, o, e2, hb, hx⟩ := ha hz
    have hlt : b < w.heap.size := by
      cases as with
      | nil => simp at hz
      | cons x r =>
        unfold ExprsC at hx
        obtain ⟨⟨cs', hr, hc⟩, _⟩ := hx
        exact range_lt hr (by rw [hc.len]; omega)
    obtain ⟨h1, h2⟩ := hF b hb hlt
    exact ⟨b, o, e2, h1, ExprsC.mono hF h2 as o hx⟩
theorem ExprsC.mono {w w' : World} {F F' : Nat → Prop} (hF : ∀ b, F b → b < w.heap.size → F' b ∧ w'.heap[b]? = w.heap[b]?) {b : Nat} (hb : w'.heap[b]? = w.heap[b]?) : ∀ (as : List E) (o : Nat), ExprsC w F b o as → ExprsC w' F' b o as
  | [], o, h => by unfold ExprsC; trivial
  | x :: r, o, h => by
    unfold ExprsC at h ⊢
    obtain ⟨⟨cs, hr, hc⟩, h2⟩ := h
    exact ⟨⟨cs, fun j v hv => (World.cell?_of_block (a := ⟨b, o + j, none⟩) hb).trans (hr j v hv), ExprC.mono hF x cs hc⟩, ExprsC.mono hF hb r (o + 5) h2⟩
end
theorem ExprsC.at_ {w : World} {F : Nat → Prop} {b : Nat} : ∀ (as : List E) (o i : Nat) (x : E), ExprsC w F b o as → as[i]? = some x → ∃ cs, w.rangeAt b (o + i * 5) cs ∧ ExprC w F x cs
  | [], o, i, x, _, h => by simp at h
  | y :: r, o, i, x, hx, h => by
    unfold ExprsC at hx
    cases i with
    | zero =>
      simp at h
      subst h
      simpa using hx.1
    | succ i =>
      obtain ⟨cs, h1, h2⟩ := ExprsC.at_ r (o + 5) i x hx.2 (by simpa using h)
      exact ⟨cs, by rw [show o + (i + 1) * 5 = o + 5 + i * 5 by omega]; exact h1, h2⟩
/-- Cells, five for each expression. -/
def CellsOf (w : World) (F : Nat → Prop) : List E → List Value → Prop
  | [], xs => xs = []
  | x :: r, xs => ∃ cs ys, xs = cs ++ ys ∧ ExprC w F x cs ∧ CellsOf w F r ys
theorem CellsOf.len {w : World} {F : Nat → Prop} : ∀ {as : List E} {xs : List Value}, CellsOf w F as xs → xs.length = as.length * 5
  | [], xs, h => by unfold CellsOf at h; simp [h]
  | x :: r, xs, h => by
    unfold CellsOf at h
    obtain ⟨cs, ys, rfl, h1, h2⟩ := h
    rw [List.length_append, h1.len, CellsOf.len h2, List.length_cons]
    omega
theorem CellsOf.mono {w w' : World} {F F' : Nat → Prop} (hF : ∀ b, F b → b < w.heap.size → F' b ∧ w'.heap[b]? = w.heap[b]?) : ∀ {as : List E} {xs : List Value}, CellsOf w F as xs → CellsOf w' F' as xs
  | [], xs, h => h
  | x :: r, xs, h => by
    unfold CellsOf at h ⊢
    obtain ⟨cs, ys, e, h1, h2⟩ := h
    exact ⟨cs, ys, e, ExprC.mono hF x cs h1, CellsOf.mono hF h2⟩
theorem CellsOf.snoc {w : World} {F : Nat → Prop} {x : E} {cs : List Value} (hx : ExprC w F x cs) : ∀ {as : List E} {xs : List Value}, CellsOf w F as xs → CellsOf w F (as ++ [x]) (xs ++ cs)
  | [], xs, h => by
    unfold CellsOf at h
    subst h
    exact ⟨cs, [], by simp, hx, rfl⟩
  | y :: r, xs, h => by
    unfold CellsOf at h
    obtain ⟨cs', ys, rfl, h1, h2⟩ := h
    exact ⟨cs', ys ++ cs, by simp, h1, CellsOf.snoc hx h2⟩
theorem CellsOf.exprs {w : World} {F : Nat → Prop} {b : Nat} : ∀ {as : List E} {xs : List Value} (o : Nat), CellsOf w F as xs → w.rangeAt b o xs → ExprsC w F b o as
  | [], _, _, _, _ => by unfold ExprsC; trivial
  | x :: r, xs, o, h, hr => by
    unfold CellsOf at h
    obtain ⟨cs, ys, rfl, h1, h2⟩ := h
    unfold ExprsC
    refine ⟨⟨cs, fun j v hv => hr j v ?_, h1⟩, CellsOf.exprs (o + 5) h2 (fun j v hv => ?_)⟩
    · rw [List.getElem?_append_left (List.getElem?_eq_some_iff.1 hv).1]; exact hv
    · have := hr (5 + j) v (by rw [List.getElem?_append_right (by rw [h1.len]; omega), h1.len]; simpa using hv)
      rw [← Nat.add_assoc] at this
      exact this
#print axioms CellsOf.exprs
end Go.Proofs.YtbjagceopgofiaaDoor
