/-
  What the two texts read of a step, and where it lies in memory.
-/
import Derived.Test.YtgnggmknbajmcaaDoorName
import Derived.Deep.MidRow
import Derived.Deep.WholeRow
import Derived.Deep.AppendLies
import Derived.Deep.Draws
import Derived.Below
namespace Go.Proofs.YtgnggmknbajmcaaDoor
open Go.RowKit

theorem block_of_add (a : Addr) (n : Nat) : (a.add n).block = a.block := by unfold Addr.add; split <;> rfl
theorem add_of_add (a : Addr) (i j : Nat) : (a.add i).add j = a.add (i + j) := by
  unfold Addr.add
  by_cases hi : i = 0 <;> by_cases hj : j = 0 <;> simp [hi, hj, Nat.add_assoc]

/-- A slice that reads as the integers zs, below block B. -/
def IntsAt (w : World) (B : Nat) (A : Option Addr) (zs : List Int) : Prop :=
  0 < zs.length → ∃ b o, A = some ⟨b, o, none⟩ ∧ b < B ∧ ∀ j, j < zs.length → w.cell? ⟨b, o + j, none⟩ = some (.int .i64 (zs.getD j 0))

structure StepD where
  rule : Int
  p : Int
  m : Int
  n : Int
  gen : Nat
  low : Int
  frm : List Int

def okI (z : Int) : Prop := -9223372036854775808 ≤ z ∧ z ≤ 9223372036854775807
def StepD.ok (d : StepD) : Prop := okI d.rule ∧ okI d.p ∧ okI d.m ∧ okI d.n ∧ d.gen ≤ 9223372036854775807 ∧ okI d.low ∧ d.frm.length ≤ 9223372036854775807 ∧ ∀ z ∈ d.frm, okI z

def StepAt (w : World) (B b o : Nat) (d : StepD) : Prop :=
  b < B ∧ d.ok ∧ ∃ (c3 c8 c9 c10 c11 c12 c13 c14 c15 c16 c17 c18 c19 c20 c21 c22 : Value) (ga fa : Option Addr) (gc fc : Nat),
    w.rangeAt b o [.int .i64 d.rule, .int .i64 d.p, .int .i64 d.m, c3, .int .i64 d.n, .slice ga d.gen gc, .int .i64 d.low, .slice fa d.frm.length fc, c8, c9, c10, c11, c12, c13, c14, c15, c16, c17, c18, c19, c20, c21, c22] ∧
    (∀ v ∈ [c3, c8, c9, c10, c11, c12, c13, c14, c15, c16, c17, c18, c19, c20, c21, c22], v.oneCell' = true) ∧ IntsAt w B fa d.frm

def StepsAt (w : World) (B : Nat) (A : Option Addr) (ds : List StepD) : Prop :=
  0 < ds.length → ∃ b o, A = some ⟨b, o, none⟩ ∧ ∀ i d, ds[i]? = some d → StepAt w B b (o + i * 23) d

theorem rangeAt_keep {w w' : World} {b o : Nat} {cs : List Value} (h : w.rangeAt b o cs) (hk : ∀ o, w'.cell? ⟨b, o, none⟩ = w.cell? ⟨b, o, none⟩) : w'.rangeAt b o cs :=
  fun j v hv => (hk _).trans (h j v hv)
theorem IntsAt.keep {w w' : World} {B : Nat} {A : Option Addr} {zs : List Int} (h : IntsAt w B A zs) (hb : Below B w w') : IntsAt w' B A zs := fun hz => by
  obtain ⟨b, o, e, hlt, hc⟩ := h hz
  exact ⟨b, o, e, hlt, fun j hj => (hb.cell (p := ⟨b, o + j, none⟩) hlt).trans (hc j hj)⟩
theorem StepAt.keep {w w' : World} {B b o : Nat} {d : StepD} (h : StepAt w B b o d) (hb : Below B w w') : StepAt w' B b o d := by
  obtain ⟨hlt, hok, c3, c8, c9, c10, c11, c12, c13, c14, c15, c16, c17, c18, c19, c20, c21, c22, ga, fa, gc, fc, hr, h1, hi⟩ := h
  exact ⟨hlt, hok, c3, c8, c9, c10, c11, c12, c13, c14, c15, c16, c17, c18, c19, c20, c21, c22, ga, fa, gc, fc, rangeAt_keep hr (fun o => hb.cell (p := ⟨b, o, none⟩) hlt), h1, hi.keep hb⟩
theorem IntsAt.more {w : World} {B B' : Nat} {A : Option Addr} {zs : List Int} (h : IntsAt w B A zs) (hB : B ≤ B') : IntsAt w B' A zs := fun hz => by
  obtain ⟨b, o, e, hlt, hc⟩ := h hz
  exact ⟨b, o, e, by omega, hc⟩
theorem StepAt.more {w : World} {B B' b o : Nat} {d : StepD} (h : StepAt w B b o d) (hB : B ≤ B') : StepAt w B' b o d := by
  obtain ⟨hlt, hok, c3, c8, c9, c10, c11, c12, c13, c14, c15, c16, c17, c18, c19, c20, c21, c22, ga, fa, gc, fc, hr, h1, hi⟩ := h
  exact ⟨by omega, hok, c3, c8, c9, c10, c11, c12, c13, c14, c15, c16, c17, c18, c19, c20, c21, c22, ga, fa, gc, fc, hr, h1, hi.more hB⟩
theorem StepsAt.keep {w w' : World} {B : Nat} {A : Option Addr} {ds : List StepD} (h : StepsAt w B A ds) (hb : Below B w w') : StepsAt w' B A ds := fun hz => by
  obtain ⟨b, o, e, hs⟩ := h hz
  exact ⟨b, o, e, fun i d hd => (hs i d hd).keep hb⟩

/-! ### The text -/
def fromText : Nat → List Int → List UInt8
  | _, [] => []
  | k, z :: r => (if k = 0 then [32, 111, 102, 32] else [44, 32]) ++ Lib.itoa z ++ fromText (k + 1) r
def headText (i : Nat) (d : StepD) : List UInt8 :=
  Lib.itoa i ++ [58, 32, 108, 101, 110, 103, 116, 104, 32] ++ Lib.itoa d.n ++ [44, 32, 100, 105, 109, 101, 110, 115, 105, 111, 110, 32] ++ Lib.itoa d.gen ++ [44, 32, 102, 105, 101, 108, 100, 32] ++ Lib.itoa d.p ++ [94] ++ Lib.itoa d.m ++ [44, 32, 119, 101, 105, 103, 104, 116, 32, 97, 116, 32, 108, 101, 97, 115, 116, 32] ++ Lib.itoa d.low ++ [44, 32, 98, 121, 32] ++ nameOf d.rule
def stepText (i : Nat) (d : StepD) : List UInt8 := headText i d ++ fromText 0 d.frm ++ [10]
def allText : Nat → List StepD → List UInt8
  | _, [] => []
  | i, d :: r => stepText i d ++ allText (i + 1) r

theorem fromText_snoc : ∀ (k : Nat) (l : List Int) (z : Int), fromText k (l ++ [z]) = fromText k l ++ (if k + l.length = 0 then [32, 111, 102, 32] else [44, 32]) ++ Lib.itoa z
  | k, [], z => by simp [fromText]
  | k, y :: l, z => by
    have := fromText_snoc (k + 1) l z
    simp [fromText, this]
theorem allText_snoc : ∀ (k : Nat) (l : List StepD) (z : StepD), allText k (l ++ [z]) = allText k l ++ stepText (k + l.length) z
  | k, [], z => by simp [allText]
  | k, y :: l, z => by
    have := allText_snoc (k + 1) l z
    simp [allText, this, Nat.add_comm, Nat.add_left_comm]

theorem nameOf_len (r : Int) : (nameOf r).length ≤ 12 := by
  unfold nameOf
  split
  · rename_i h
    obtain ⟨n, rfl⟩ := Int.eq_ofNat_of_zero_le h.1
    have hn : n < 20 := by omega
    have : ∀ m : Fin 20, (ruleNames.getD m.val []).length ≤ 12 := by decide
    exact this ⟨n, hn⟩
  · simp
theorem fromText_len : ∀ (k : Nat) (l : List Int), (∀ z ∈ l, okI z) → (fromText k l).length ≤ 25 * l.length
  | _, [], _ => by simp [fromText]
  | k, z :: l, h => by
    have h1 := fromText_len (k + 1) l (fun y hy => h y (List.mem_cons_of_mem _ hy))
    have hz := h z (List.mem_cons_self ..)
    have h2 := Lib.itoa_length_le z hz.1 hz.2
    simp only [fromText, List.length_append, List.length_cons]
    split <;> simp <;> omega
theorem headText_len (i : Nat) (d : StepD) (hi : i ≤ 1000) (h : d.ok) : (headText i d).length ≤ 220 := by
  obtain ⟨_, ⟨p0, p1⟩, ⟨m0, m1⟩, ⟨n0, n1⟩, g1, ⟨l0, l1⟩, _⟩ := h
  have li := Lib.itoa_length_le i (by omega) (by omega)
  have ln := Lib.itoa_length_le d.n n0 n1
  have lp := Lib.itoa_length_le d.p p0 p1
  have lm := Lib.itoa_length_le d.m m0 m1
  have lw := Lib.itoa_length_le d.low l0 l1
  have lg := Lib.itoa_length_le d.gen (by omega) (by omega)
  have := nameOf_len d.rule
  simp only [headText, List.length_append, List.length_cons, List.length_nil]
  omega
theorem stepText_len (i : Nat) (d : StepD) (hi : i ≤ 1000) (h : d.ok) (hf : d.frm.length ≤ 100) : (stepText i d).length ≤ 3000 := by
  have h1 := headText_len i d hi h
  have h2 := fromText_len 0 d.frm h.2.2.2.2.2.2.2
  simp only [stepText, List.length_append, List.length_cons, List.length_nil]
  omega
theorem allText_len : ∀ (i : Nat) (l : List StepD), i + l.length ≤ 1000 → (∀ d ∈ l, d.ok ∧ d.frm.length ≤ 100) → (allText i l).length ≤ 3000 * l.length
  | _, [], _, _ => by simp [allText]
  | i, d :: l, hi, h => by
    simp only [List.length_cons] at hi
    have h1 := allText_len (i + 1) l (by omega) (fun y hy => h y (List.mem_cons_of_mem _ hy))
    have hd := h d (List.mem_cons_self ..)
    have h2 := stepText_len i d (by omega) hd.1 hd.2
    simp only [allText, List.length_append, List.length_cons]
    omega

#print axioms allText_snoc
end Go.Proofs.YtgnggmknbajmcaaDoor
