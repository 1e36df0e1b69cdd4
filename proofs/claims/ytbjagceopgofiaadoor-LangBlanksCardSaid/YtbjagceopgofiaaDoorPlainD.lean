/-
  The plain law of blanks: blanks between tokens, and around them, change nothing but the places of the errors.
-/
import Derived.Test.YtbjagceopgofiaaDoorPlainC
import Derived.Test.YtbjagceopgofiaaDoorParse
namespace Go.Proofs.YtbjagceopgofiaaDoor
open Go.RowKit

def gapB (g : List UInt8) : Prop := g = [32] ∨ g = [9] ∨ g = [32, 10, 32] ∨ g = [32, 32]
/-- Texts of tokens with blanks ahead of each. -/
inductive BlankOut : List Tok → List UInt8 → Prop
  | nil : BlankOut [] []
  | snoc {ts : List Tok} {o : List UInt8} {t : Tok} {g : List UInt8} : BlankOut ts o → gapB g → BlankOut (ts ++ [t]) (o ++ (g ++ t.text))
theorem gap_lexes {g : List UInt8} (h : gapB g) : LexesA g [] ∧ ∀ r, SepR (g ++ r) := by
  have b32 := lexes_blank (c := 32) rfl
  have b9 := lexes_blank (c := 9) rfl
  have b10 := lexes_blank (c := 10) rfl
  rcases h with rfl | rfl | rfl | rfl
  · exact ⟨b32, fun r => sep_cons (c := 32) rfl _⟩
  · exact ⟨b9, fun r => sep_cons (c := 9) rfl _⟩
  · exact ⟨b32.appA (b10.appA b32), fun r => sep_cons (c := 32) rfl _⟩
  · exact ⟨b32.appA b32, fun r => sep_cons (c := 32) rfl _⟩
theorem tok_lexes {L : Nat} {t : Tok} (h : TokOk L t) : Lexes t.text [sh t] := by
  obtain ⟨_, h⟩ := h
  obtain ⟨k, x, n, p⟩ := t
  rcases h with ⟨h1, h2, h3⟩ | ⟨h1, h2, _⟩ | ⟨h1, ⟨c, h2, h4⟩, h3⟩
  · simp only [] at h1 h2 h3
    subst h1 h3
    exact lexes_name (name_ok h2)
  · simp only [] at h1 h2
    subst h1
    exact lexes_num h2
  · simp only [] at h1 h3 h4
    subst h1 h3 h4
    exact (lexes_sign h2).toLexes
theorem blank_lexes {L : Nat} {ts : List Tok} {o : List UInt8} (h : BlankOut ts o) (hts : ∀ t ∈ ts, TokOk L t) : Lexes o (ts.map sh) := by
  induction h with
  | nil => exact lexes_nil.toLexes
  | snoc _ hg ih =>
    rename_i ts o t g _
    have h1 := ih (fun t ht => hts t (by simp [ht]))
    have h2 := (gap_lexes hg).1.app (tok_lexes (hts t (by simp)))
    rw [List.map_append]
    refine h1.app h2 (fun r _ => ?_)
    rw [List.append_assoc]
    exact (gap_lexes hg).2 _
theorem gap_len {g : List UInt8} (h : gapB g) : g.length ≤ 3 := by rcases h with rfl | rfl | rfl | rfl <;> simp
def sumT (ts : List Tok) : Nat := (ts.map fun t => t.text.length).sum
theorem sumT_snoc (ts : List Tok) (t : Tok) : sumT (ts ++ [t]) = sumT ts + t.text.length := by simp [sumT]
theorem blank_len {ts : List Tok} {o : List UInt8} (h : BlankOut ts o) : o.length ≤ 3 * ts.length + sumT ts := by
  induction h with
  | nil => simp
  | snoc _ hg ih =>
    have := gap_len hg
    rw [sumT_snoc]
    simp only [List.length_append, List.length_cons, List.length_nil]
    omega
theorem lexM_sum : ∀ (f : Nat) (l : List UInt8) (k : Nat) (acc ts : List Tok), k ≤ l.length → lexM f l k acc = .ok ts → sumT ts ≤ sumT acc + (l.length - k)
  | 0, l, k, acc, ts, hk, h => by
    unfold lexM at h
    injection h with h
    subst h
    omega
  | f + 1, l, k, acc, ts, hk, h => by
    unfold lexM at h
    split at h
    · injection h with h
      subst h
      omega
    · rename_i c hc
      have hkl : k < l.length := (List.getElem?_eq_some_iff.1 hc).1
      split at h
      · have := lexM_sum f l (k + 1) acc ts (by omega) h
        omega
      · split at h
        · rename_i hl
          split at h
          · cases h
          · have h1 := runEnd_gt hc (let_in hl)
            have h2 := runEnd_le inNm l k hk
            have := lexM_sum f l _ _ ts h2 h
            rw [sumT_snoc] at this
            have hp : (piece l k (runEnd inNm l k)).length = _ := piece_len h2
            simp only [] at this
            omega
        · split at h
          · rename_i hd
            split at h
            · cases h
            · rename_i e v hn
              obtain ⟨rfl, _, _⟩ := numM_ok hn
              have h1 := runEnd_gt hc hd
              have h2 := runEnd_le isDig l k hk
              have := lexM_sum f l _ _ ts h2 h
              rw [sumT_snoc] at this
              have hp : (piece l k (runEnd isDig l k)).length = _ := piece_len h2
              simp only [] at this
              omega
          · split at h
            · have := lexM_sum f l (k + 1) _ ts (by omega) h
              rw [sumT_snoc] at this
              simp only [List.length_cons, List.length_nil] at this
              omega
            · cases h
theorem tokensM_sum {l : List UInt8} {ts : List Tok} (h : tokensM l = .ok ts) : sumT ts ≤ l.length := by
  unfold tokensM at h
  split at h
  · cases h
  · have := lexM_sum _ l 0 [] ts (by omega) h
    simp [sumT] at this ⊢
    omega
/-- The tokens of the blank text have the same shapes. -/
theorem blank_tokens {l o : List UInt8} {ts : List Tok} (h : tokensM l = .ok ts) (hl : l.length ≤ 3000) (hb : BlankOut ts o) : ∃ ts', tokensM (o ++ [10]) = .ok ts' ∧ ts'.map sh = ts.map sh := by
  have h1 := (tokensM_len h).2
  have h2 := tokensM_sum h
  have h3 := blank_len hb
  have hx := (blank_lexes hb (tokensM_ok h)).app (lexes_blank (c := 10) rfl).toLexes (fun r _ => sep_cons (c := 10) rfl _)
  obtain ⟨ts', e1, e2⟩ := hx (o ++ [10]) 0 [] [] (by simp) (fun c m e => by cases e)
  rw [Nat.zero_add, lexAt_end, List.nil_append] at e2
  refine ⟨ts', ?_, by rw [e1, List.append_nil]⟩
  rw [tokensM_at _ (by simp; omega), e2]

/-! ### Same shapes, same results -/
def code {α : Type} : Except (Nat × Nat) α → Except Nat α
  | .error e => .error e.1
  | .ok x => .ok x
section
variable {ts ts' : List Tok} {en en' : Nat}
theorem sh_get (h : ts'.map sh = ts.map sh) (i : Nat) : (ts'[i]?).map sh = (ts[i]?).map sh := by
  rw [← List.getElem?_map, h, List.getElem?_map]
theorem sh_all (h : ts'.map sh = ts.map sh) (i : Nat) : kindT ts' i = kindT ts i ∧ textT ts' i = textT ts i ∧ nT ts' i = nT ts i ∧ ∀ c, isT ts' i c = isT ts i c := by
  have hg := sh_get h i
  unfold kindT textT nT isT
  cases h1 : ts'[i]? with
  | none =>
    rw [h1] at hg
    cases h2 : ts[i]? with
    | none => exact ⟨rfl, rfl, rfl, fun _ => rfl⟩
    | some t => rw [h2] at hg; cases hg
  | some t' =>
    rw [h1] at hg
    cases h2 : ts[i]? with
    | none => rw [h2] at hg; cases hg
    | some t =>
      rw [h2] at hg
      have hs : sh t' = sh t := Option.some.inj hg
      unfold sh at hs
      injection hs with a1 a2
      injection a2 with a2 a3
      simp [a1, a2, a3]
theorem list_sh (h : ts'.map sh = ts.map sh) : ∀ (f i : Nat) (acc : List Int), (listM ts' en' f i acc).map code = (listM ts en f i acc).map code
  | 0, i, acc => by unfold listM; rfl
  | f + 1, i, acc => by
    unfold listM
    obtain ⟨h1, _, h3, _⟩ := sh_all h i
    obtain ⟨_, _, _, h4⟩ := sh_all h (i + 1)
    rw [h1, h3, h4 93, h4 44]
    split
    · rfl
    · split
      · rfl
      · split
        · rfl
        · split
          · exact list_sh h f _ _
          · rfl
theorem code_cases {α : Type} {r r' : Option (Except (Nat × Nat) α)} (h : r'.map code = r.map code) :
    (r = none ∧ r' = none) ∨ (∃ e e' : Nat × Nat, r = some (.error e) ∧ r' = some (.error e') ∧ e'.1 = e.1) ∨ ∃ x, r = some (.ok x) ∧ r' = some (.ok x) := by
  cases r with
  | none =>
    cases r' with
    | none => exact .inl ⟨rfl, rfl⟩
    | some y => cases h
  | some x =>
    cases r' with
    | none => cases h
    | some y =>
      have h' : code y = code x := Option.some.inj h
      cases x with
      | error e =>
        cases y with
        | error e' => exact .inr (.inl ⟨e, e', rfl, rfl, by unfold code at h'; injection h'⟩)
        | ok y => unfold code at h'; cases h'
      | ok x =>
        cases y with
        | error e' => unfold code at h'; cases h'
        | ok y => unfold code at h'; injection h' with h'; subst h'; exact .inr (.inr ⟨_, rfl, rfl⟩)
theorem both_sh (h : ts'.map sh = ts.map sh) : ∀ (f : Nat),
    (∀ d i nd, (exprM ts' en' f d i nd).map code = (exprM ts en f d i nd).map code) ∧ (∀ d i nd acc, (argsM ts' en' f d i nd acc).map code = (argsM ts en f d i nd acc).map code) := by
  intro f
  induction f with
  | zero => exact ⟨fun d i nd => (by unfold exprM; rfl), fun d i nd acc => (by unfold argsM; rfl)⟩
  | succ f ih =>
    refine ⟨fun d i nd => ?_, fun d i nd acc => ?_⟩
    · unfold exprM
      obtain ⟨h1, h2, h3, h4⟩ := sh_all h i
      obtain ⟨_, _, _, g4⟩ := sh_all h (i + 1)
      rw [h1, h2, h3, h4 91, g4 93, g4 40]
      split
      · rfl
      · split
        · rfl
        · split
          · split
            · rfl
            · rcases code_cases (list_sh (en := en) (en' := en') h f (i + 1) []) with ⟨e1, e2⟩ | ⟨e, e', e1, e2, he⟩ | ⟨x, e1, e2⟩
              · rw [e1, e2]
              · rw [e1, e2]; simp [code, he]
              · rw [e1, e2]
          · split
            · rfl
            · split
              · rfl
              · rcases code_cases (ih.2 d (i + 2) (nd + 1) []) with ⟨e1, e2⟩ | ⟨e, e', e1, e2, he⟩ | ⟨x, e1, e2⟩
                · rw [e1, e2]
                · rw [e1, e2]; simp [code, he]
                · rw [e1, e2]
    · unfold argsM
      obtain ⟨_, _, _, h4⟩ := sh_all h i
      rw [h4 41, h4 44]
      split
      · rfl
      · split
        · rfl
        · rcases code_cases (ih.1 (d + 1) (if acc.length ≠ 0 then i + 1 else i) nd) with ⟨e1, e2⟩ | ⟨e, e', e1, e2, he⟩ | ⟨x, e1, e2⟩
          · rw [e1, e2]
          · rw [e1, e2]; simp [code, he]
          · rw [e1, e2]
            obtain ⟨y, j, nd'⟩ := x
            exact ih.2 d j nd' (acc ++ [y])
end
theorem blank_parse {l o : List UInt8} {ts : List Tok} (h : tokensM l = .ok ts) (hl : l.length ≤ 3000) (hb : BlankOut ts o) : code (parseM (o ++ [10])) = code (parseM l) := by
  obtain ⟨ts', h1, h2⟩ := blank_tokens h hl hb
  have hlen : ts'.length = ts.length := by have := congrArg List.length h2; simpa using this
  unfold parseM
  rw [h, h1]
  simp only [hlen]
  rcases code_cases ((both_sh (en := l.length) (en' := (o ++ [10]).length) h2 (2 * ts.length + 4)).1 1 0 0) with ⟨e1, e2⟩ | ⟨e, e', e1, e2, he⟩ | ⟨x, e1, e2⟩
  · rw [e1, e2]
  · rw [e1, e2]; simp [code, he]
  · rw [e1, e2]
    obtain ⟨y, j, nd⟩ := x
    simp only []
    split
    · rfl
    · rfl
#print axioms blank_parse
end Go.Proofs.YtbjagceopgofiaaDoor
