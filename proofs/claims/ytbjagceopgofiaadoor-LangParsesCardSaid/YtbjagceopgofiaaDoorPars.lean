/-
  The parser, as a plain function on a list of tokens.
-/
import Derived.Test.YtbjagceopgofiaaDoorLex
namespace Go.Proofs.YtbjagceopgofiaaDoor
open Go.RowKit

inductive E where
  | mk (kind : Int) (name : List UInt8) (n : Int) (list : List Int) (args : List E)

def atT (ts : List Tok) (en i : Nat) : Nat := match ts[i]? with | some t => t.pos | none => en
def kindT (ts : List Tok) (i : Nat) : Nat := match ts[i]? with | some t => t.kind | none => 0
def isT (ts : List Tok) (i : Nat) (c : UInt8) : Bool := match ts[i]? with | some t => decide (t.kind = 3 ∧ t.text = [c]) | none => false
def nT (ts : List Tok) (i : Nat) : Int := match ts[i]? with | some t => t.n | none => 0
def textT (ts : List Tok) (i : Nat) : List UInt8 := match ts[i]? with | some t => t.text | none => []

/-- The numbers of a list behind its bracket (not the empty list): the numbers and the next token's place, or an error with its offset; nothing: out of fuel. -/
def listM (ts : List Tok) (en : Nat) : Nat → Nat → List Int → Option (Except (Nat × Nat) (List Int × Nat))
  | 0, _, _ => none
  | f + 1, i, acc =>
    if kindT ts i ≠ 2 then some (.error (14, atT ts en i))
    else if acc.length = 4096 then some (.error (8, atT ts en i))
    else if isT ts (i + 1) 93 then some (.ok (acc ++ [nT ts i], i + 2))
    else if isT ts (i + 1) 44 then listM ts en f (i + 2) (acc ++ [nT ts i])
    else some (.error (14, atT ts en (i + 1)))

mutual
def exprM (ts : List Tok) (en : Nat) : Nat → Nat → Nat → Nat → Option (Except (Nat × Nat) (E × Nat × Nat))
  | 0, _, _, _ => none
  | f + 1, d, i, nd =>
    if kindT ts i ≠ 1 ∧ kindT ts i ≠ 2 ∧ isT ts i 91 = false then some (.error (14, atT ts en i))
    else if 32 < d ∨ nd = 1024 then some (.error (8, atT ts en i))
    else if isT ts i 91 then
      if isT ts (i + 1) 93 then some (.ok (.mk 2 [] 0 [] [], i + 2, nd + 1))
      else match listM ts en f (i + 1) [] with
        | none => none
        | some (.error e) => some (.error e)
        | some (.ok (l, j)) => some (.ok (.mk 2 [] 0 l [], j, nd + 1))
    else if kindT ts i = 2 then some (.ok (.mk 1 [] (nT ts i) [] [], i + 1, nd + 1))
    else if isT ts (i + 1) 40 = false then some (.ok (.mk 4 (textT ts i) 0 [] [], i + 1, nd + 1))
    else match argsM ts en f d (i + 2) (nd + 1) [] with
      | none => none
      | some (.error e) => some (.error e)
      | some (.ok (as, j, nd')) => some (.ok (.mk 3 (textT ts i) 0 [] as, j, nd'))
/-- The arguments of a call, the list acc of them read already. -/
def argsM (ts : List Tok) (en : Nat) : Nat → Nat → Nat → Nat → List E → Option (Except (Nat × Nat) (List E × Nat × Nat))
  | 0, _, _, _, _ => none
  | f + 1, d, i, nd, acc =>
    if isT ts i 41 then some (.ok (acc, i + 1, nd))
    else if acc.length ≠ 0 ∧ isT ts i 44 = false then some (.error (14, atT ts en i))
    else match exprM ts en f (d + 1) (if acc.length ≠ 0 then i + 1 else i) nd with
      | none => none
      | some (.error e) => some (.error e)
      | some (.ok (x, j, nd')) => argsM ts en f d j nd' (acc ++ [x])
end

/-- Enough fuel for a text of so many tokens. -/
def parseM (l : List UInt8) : Except (Nat × Nat) E :=
  match tokensM l with
  | .error e => .error e
  | .ok ts =>
    match exprM ts l.length (2 * ts.length + 4) 1 0 0 with
    | none => .error (0, 0)
    | some (.error e) => .error e
    | some (.ok (x, i, _)) => if i < ts.length then .error (14, atT ts l.length i) else .ok x

/-! ### The fuel suffices -/
theorem kindT_lt {ts : List Tok} {i : Nat} (h : kindT ts i ≠ 0) : i < ts.length := by
  unfold kindT at h
  rcases Nat.lt_or_ge i ts.length with hl | hl
  · exact hl
  · rw [List.getElem?_eq_none hl] at h; simp at h
theorem isT_lt {ts : List Tok} {i : Nat} {c : UInt8} (h : isT ts i c = true) : i < ts.length := by
  unfold isT at h
  rcases Nat.lt_or_ge i ts.length with hl | hl
  · exact hl
  · rw [List.getElem?_eq_none hl] at h; simp at h
/-- A result is there, and where it is no error the place has gone on, within the tokens. -/
def Gone {α : Type} (L i : Nat) (place : α → Nat) (r : Option (Except (Nat × Nat) α)) : Prop :=
  ∃ x, r = some x ∧ ∀ y, x = .ok y → i < place y ∧ place y ≤ L
theorem gone_err {α : Type} {L i : Nat} {place : α → Nat} {e : Nat × Nat} : Gone L i place (some (.error e)) := ⟨_, rfl, fun y h => by cases h⟩
theorem gone_ok {α : Type} {L i : Nat} {place : α → Nat} {y : α} (h1 : i < place y) (h2 : place y ≤ L) : Gone L i place (some (.ok y)) := ⟨_, rfl, fun z h => by injection h with h; subst h; exact ⟨h1, h2⟩⟩
theorem listM_gone {ts : List Tok} {en : Nat} : ∀ (f i : Nat) (acc : List Int), i ≤ ts.length → ts.length < i + f → Gone ts.length i (·.2) (listM ts en f i acc)
  | 0, i, acc, h1, h2 => by omega
  | f + 1, i, acc, h1, h2 => by
    unfold listM
    split
    · exact gone_err
    · split
      · exact gone_err
      · split
        · rename_i h
          exact gone_ok (by show i < i + 2; omega) (isT_lt h)
        · split
          · rename_i h
            obtain ⟨x, hx, hy⟩ := listM_gone f (i + 2) (acc ++ [nT ts i]) (isT_lt h) (by omega)
            exact ⟨x, hx, fun y h => ⟨by have := (hy y h).1; omega, (hy y h).2⟩⟩
          · exact gone_err

theorem both_gone {ts : List Tok} {en : Nat} : ∀ (f : Nat),
    (∀ d i nd, i ≤ ts.length → 2 * (ts.length - i) + 2 ≤ f → Gone ts.length i (·.2.1) (exprM ts en f d i nd)) ∧
    (∀ d i nd acc, i ≤ ts.length → 2 * (ts.length - i) + 3 ≤ f → Gone ts.length i (·.2.1) (argsM ts en f d i nd acc)) := by
  intro f
  induction f with
  | zero => exact ⟨fun d i nd _ h => by omega, fun d i nd acc _ h => by omega⟩
  | succ f ih =>
    refine ⟨fun d i nd h1 h2 => ?_, fun d i nd acc h1 h2 => ?_⟩
    · unfold exprM
      split
      · exact gone_err
      · rename_i hk
        split
        · exact gone_err
        · split
          · rename_i hb
            have hi := isT_lt hb
            split
            · rename_i h
              exact gone_ok (by show i < i + 2; omega) (isT_lt h)
            · obtain ⟨x, hx, hy⟩ := listM_gone (ts := ts) (en := en) f (i + 1) [] (by omega) (by omega)
              rw [hx]
              match x, hy with
              | .error e, _ => exact gone_err
              | .ok (l, j), hy =>
                have := hy (l, j) rfl
                exact gone_ok (by show i < j; have h := this.1; simp at h; omega) (by show j ≤ _; simpa using this.2)
          · rename_i hb
            have hi : i < ts.length := kindT_lt (fun h0 => hk ⟨by omega, by omega, by simpa using hb⟩)
            split
            · exact gone_ok (by show i < i + 1; omega) (by show i + 1 ≤ _; omega)
            · split
              · exact gone_ok (by show i < i + 1; omega) (by show i + 1 ≤ _; omega)
              · rename_i ho
                have h3 : i + 1 < ts.length := isT_lt (c := 40) (by simpa using ho)
                obtain ⟨x, hx, hy⟩ := ih.2 d (i + 2) (nd + 1) [] (by omega) (by omega)
                rw [hx]
                match x, hy with
                | .error e, _ => exact gone_err
                | .ok (as, j, nd'), hy =>
                  have := hy (as, j, nd') rfl
                  exact gone_ok (by show i < j; have h := this.1; simp at h; omega) (by show j ≤ _; simpa using this.2)
    · unfold argsM
      split
      · rename_i h
        exact gone_ok (by show i < i + 1; omega) (isT_lt h)
      · split
        · exact gone_err
        · rename_i hc
          have hi' : i ≤ (if acc.length ≠ 0 then i + 1 else i) ∧ (if acc.length ≠ 0 then i + 1 else i) ≤ ts.length := by
            split
            · rename_i h0
              have : isT ts i 44 = true := by
                cases h : isT ts i 44 with
                | true => rfl
                | false => exact absurd ⟨h0, h⟩ hc
              exact ⟨by omega, isT_lt this⟩
            · exact ⟨by omega, h1⟩
          obtain ⟨x, hx, hy⟩ := ih.1 (d + 1) (if acc.length ≠ 0 then i + 1 else i) nd hi'.2 (by omega)
          rw [hx]
          match x, hy with
          | .error e, _ => exact gone_err
          | .ok (y, j, nd'), hy =>
            have hj : (if acc.length ≠ 0 then i + 1 else i) < j ∧ j ≤ ts.length := hy (y, j, nd') rfl
            generalize (if acc.length ≠ 0 then i + 1 else i) = i' at *
            obtain ⟨z, hz, hw⟩ := ih.2 d j nd' (acc ++ [y]) hj.2 (by omega)
            exact ⟨z, hz, fun u hu => ⟨by have := (hw u hu).1; omega, (hw u hu).2⟩⟩
#print axioms both_gone
end Go.Proofs.YtbjagceopgofiaaDoor
