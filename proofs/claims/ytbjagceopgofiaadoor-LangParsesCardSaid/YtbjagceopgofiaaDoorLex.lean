/-
  The tokens of a text, as a plain function on lists of bytes.
-/
import Derived.Test.YtbjagceopgofiaaDoorKit
namespace Go.Proofs.YtbjagceopgofiaaDoor
open Go.RowKit

structure Tok where
  kind : Nat
  text : List UInt8
  n : Nat
  pos : Nat

def isLet (c : UInt8) : Bool := decide (97 ≤ c.toNat ∧ c.toNat ≤ 122)
def isDig (c : UInt8) : Bool := decide (48 ≤ c.toNat ∧ c.toNat ≤ 57)
def isBl (c : UInt8) : Bool := decide (c.toNat = 32 ∨ c.toNat = 9 ∨ c.toNat = 10)
def isSg (c : UInt8) : Bool := decide (c.toNat = 40 ∨ c.toNat = 41 ∨ c.toNat = 91 ∨ c.toNat = 93 ∨ c.toNat = 44)
def inNm (c : UInt8) : Bool := isLet c || isDig c || decide (c.toNat = 95)

/-- The end of the run of bytes from i on for which p holds. -/
def runEnd (p : UInt8 → Bool) (l : List UInt8) (i : Nat) : Nat := i + ((l.drop i).takeWhile p).length

def valM : List UInt8 → Nat → Option Nat
  | [], v => some v
  | c :: r, v => if 9999999 < v * 10 + (c.toNat - 48) then none else valM r (v * 10 + (c.toNat - 48))

/-- May a number end at e? (no letter, no underscore behind it; no leading zero) -/
def numBad (l : List UInt8) (at_ e : Nat) : Bool :=
  (match l[e]? with | some c => isLet c || decide (c.toNat = 95) | none => false) || (decide (at_ + 1 < e) && (match l[at_]? with | some c => decide (c.toNat = 48) | none => false))

/-- A number that begins at 'at_': its end and its value, or an error. -/
def numM (l : List UInt8) (at_ : Nat) : Except Nat (Nat × Nat) :=
  if numBad l at_ (runEnd isDig l at_) then .error 14
  else match valM ((l.drop at_).take (runEnd isDig l at_ - at_)) 0 with
    | none => .error 8
    | some v => .ok (runEnd isDig l at_, v)

def piece (l : List UInt8) (a b : Nat) : List UInt8 := (l.drop a).take (b - a)

def lexM : Nat → List UInt8 → Nat → List Tok → Except (Nat × Nat) (List Tok)
  | 0, _, _, acc => .ok acc
  | f + 1, l, at_, acc =>
    match l[at_]? with
    | none => .ok acc
    | some c =>
      if isBl c then lexM f l (at_ + 1) acc
      else if isLet c then
        if at_ + 16 < runEnd inNm l at_ then .error (8, at_) else lexM f l (runEnd inNm l at_) (acc ++ [⟨1, piece l at_ (runEnd inNm l at_), 0, at_⟩])
      else if isDig c then
        match numM l at_ with
        | .error e => .error (e, at_)
        | .ok (e, v) => lexM f l e (acc ++ [⟨2, piece l at_ e, v, at_⟩])
      else if isSg c then lexM f l (at_ + 1) (acc ++ [⟨3, [c], 0, at_⟩])
      else .error (14, at_)

def tokensM (l : List UInt8) : Except (Nat × Nat) (List Tok) := if 65536 < l.length then .error (8, 0) else lexM (l.length + 1) l 0 []

/-! ### Runs -/
theorem runEnd_step {p : UInt8 → Bool} {l : List UInt8} {i : Nat} {c : UInt8} (h : l[i]? = some c) (hp : p c = true) : runEnd p l i = runEnd p l (i + 1) := by
  have hi : i < l.length := (List.getElem?_eq_some_iff.1 h).1
  have hc : l[i] = c := (List.getElem?_eq_some_iff.1 h).2
  unfold runEnd
  rw [List.drop_eq_getElem_cons hi, hc, List.takeWhile_cons, if_pos hp, List.length_cons]
  omega
theorem runEnd_stop {p : UInt8 → Bool} {l : List UInt8} {i : Nat} {c : UInt8} (h : l[i]? = some c) (hp : p c = false) : runEnd p l i = i := by
  have hi : i < l.length := (List.getElem?_eq_some_iff.1 h).1
  have hc : l[i] = c := (List.getElem?_eq_some_iff.1 h).2
  unfold runEnd
  rw [List.drop_eq_getElem_cons hi, hc, List.takeWhile_cons, if_neg (by simp [hp])]
  simp
theorem runEnd_end {p : UInt8 → Bool} {l : List UInt8} {i : Nat} (h : l.length ≤ i) : runEnd p l i = i := by
  unfold runEnd
  rw [List.drop_eq_nil_of_le h]
  simp
theorem runEnd_ge (p : UInt8 → Bool) (l : List UInt8) (i : Nat) : i ≤ runEnd p l i := by unfold runEnd; omega
theorem runEnd_le (p : UInt8 → Bool) (l : List UInt8) (i : Nat) (h : i ≤ l.length) : runEnd p l i ≤ l.length := by
  unfold runEnd
  have := List.Sublist.length_le (List.takeWhile_sublist p (l := l.drop i))
  rw [List.length_drop] at this
  omega
theorem runEnd_gt {p : UInt8 → Bool} {l : List UInt8} {i : Nat} {c : UInt8} (h : l[i]? = some c) (hp : p c = true) : i < runEnd p l i := by
  rw [runEnd_step h hp]
  have := runEnd_ge p l (i + 1)
  omega
theorem takeWhile_all (p : UInt8 → Bool) : ∀ (l : List UInt8) (c : UInt8), c ∈ l.takeWhile p → p c = true
  | [], c, h => by simp at h
  | a :: l, c, h => by
    rw [List.takeWhile_cons] at h
    split at h
    · rename_i ha
      rcases List.mem_cons.1 h with rfl | h
      · exact ha
      · exact takeWhile_all p l c h
    · simp at h
theorem runEnd_all (p : UInt8 → Bool) (l : List UInt8) (i : Nat) : ∀ c ∈ piece l i (runEnd p l i), p c = true := by
  intro c hc
  have : piece l i (runEnd p l i) = (l.drop i).takeWhile p := by
    unfold piece runEnd
    rw [Nat.add_sub_cancel_left]
    exact (List.prefix_iff_eq_take.1 (List.takeWhile_prefix p)).symm
  rw [this] at hc
  exact takeWhile_all p _ c hc
theorem let_in {c : UInt8} (h : isLet c = true) : inNm c = true := by simp [inNm, h]
theorem numM_ok {l : List UInt8} {a e v : Nat} (h : numM l a = .ok (e, v)) : e = runEnd isDig l a ∧ numBad l a (runEnd isDig l a) = false ∧ valM (piece l a (runEnd isDig l a)) 0 = some v := by
  unfold numM at h
  split at h
  · cases h
  · rename_i hb
    split at h
    · cases h
    · rename_i v' hv
      simp only [Except.ok.injEq, Prod.mk.injEq] at h
      obtain ⟨rfl, rfl⟩ := h
      exact ⟨rfl, by simpa using hb, hv⟩
#print axioms runEnd_all
end Go.Proofs.YtbjagceopgofiaaDoor
