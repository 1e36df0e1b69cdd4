/-
  Plain laws of parsing: every token is well formed; what is parsed is of the right form and within the bounds; where the errors are.
-/
import Derived.Test.YtbjagceopgofiaaDoorPlainB
namespace Go.Proofs.YtbjagceopgofiaaDoor
open Go.RowKit

def TokOk (L : Nat) (t : Tok) : Prop :=
  t.pos < L ∧ ((t.kind = 1 ∧ nameB t.text = true ∧ t.n = 0) ∨ (t.kind = 2 ∧ NumOk t.text t.n ∧ t.n ≤ 9999999) ∨ (t.kind = 3 ∧ (∃ c, isSg c = true ∧ t.text = [c]) ∧ t.n = 0))
theorem takeWhile_full {p : UInt8 → Bool} : ∀ a : List UInt8, (∀ c ∈ a, p c = true) → a.takeWhile p = a
  | [], _ => rfl
  | c :: a, h => by rw [List.takeWhile_cons, h c (by simp)]; simp only [if_true]; rw [takeWhile_full a (fun c hc => h c (by simp [hc]))]
theorem runEnd_full {p : UInt8 → Bool} (a : List UInt8) (h : ∀ c ∈ a, p c = true) : runEnd p a 0 = a.length := by
  unfold runEnd
  rw [List.drop_zero, takeWhile_full a h, Nat.zero_add]
theorem valM_le : ∀ (a : List UInt8) (v w : Nat), valM a v = some w → v ≤ 9999999 → w ≤ 9999999
  | [], v, w, h, hv => by unfold valM at h; injection h with h; omega
  | c :: a, v, w, h, _ => by
    unfold valM at h
    split at h
    · cases h
    · exact valM_le a _ w h (by omega)
theorem piece_head {l : List UInt8} {a b : Nat} {c : UInt8} (h : l[a]? = some c) (hb : a < b) : ∃ m, piece l a b = c :: m := by
  obtain ⟨ha, hc⟩ := List.getElem?_eq_some_iff.1 h
  unfold piece
  rw [List.drop_eq_getElem_cons ha, hc]
  obtain ⟨n, hn⟩ : ∃ n, b - a = n + 1 := ⟨b - a - 1, by omega⟩
  rw [hn, List.take_succ_cons]
  exact ⟨_, rfl⟩
theorem lexM_ok : ∀ (f : Nat) (l : List UInt8) (k : Nat) (acc ts : List Tok), k ≤ l.length → lexM f l k acc = .ok ts → (∀ t ∈ acc, TokOk l.length t) → ∀ t ∈ ts, TokOk l.length t
  | 0, l, k, acc, ts, _, h, ha => by
    unfold lexM at h
    injection h with h
    subst h
    exact ha
  | f + 1, l, k, acc, ts, hk, h, ha => by
    have snoc : ∀ t : Tok, TokOk l.length t → ∀ u ∈ acc ++ [t], TokOk l.length u := fun t ht u hu => by
      rcases List.mem_append.1 hu with hu | hu
      · exact ha u hu
      · rw [List.mem_singleton.1 hu]; exact ht
    unfold lexM at h
    split at h
    · injection h with h
      subst h
      exact ha
    · rename_i c hc
      have hkl : k < l.length := (List.getElem?_eq_some_iff.1 hc).1
      split at h
      · exact lexM_ok f l (k + 1) acc ts (by omega) h ha
      · split at h
        · rename_i hl
          split at h
          · cases h
          · rename_i h16
            have h1 := runEnd_gt hc (let_in hl)
            have h2 := runEnd_le inNm l k hk
            refine lexM_ok f l _ _ ts h2 h (snoc _ ⟨hkl, .inl ⟨rfl, ?_, rfl⟩⟩)
            obtain ⟨m, hm⟩ := piece_head hc h1
            have hall := runEnd_all inNm l k
            have hlen := (piece_len h2 : (piece l k (runEnd inNm l k)).length = _)
            show nameB (piece l k (runEnd inNm l k)) = true
            unfold nameB
            rw [decide_eq_true_iff]
            exact ⟨by rw [hm]; simp, by omega, fun c' hc' => by rw [hm] at hc'; simp at hc'; rw [← hc']; exact hl, runEnd_full _ hall⟩
        · split at h
          · rename_i hd
            split at h
            · cases h
            · rename_i e v hn
              obtain ⟨rfl, hb, hv⟩ := numM_ok hn
              have h1 := runEnd_gt hc hd
              have h2 := runEnd_le isDig l k hk
              obtain ⟨m, hm⟩ := piece_head hc h1
              refine lexM_ok f l _ _ ts h2 h (snoc _ ⟨hkl, .inr (.inl ⟨rfl, ⟨by show piece l k _ ≠ []; rw [hm]; simp, runEnd_all isDig l k, fun hlt c' m' he => ?_, hv⟩, valM_le _ _ _ hv (by omega)⟩)⟩)
              have he' : piece l k (runEnd isDig l k) = c' :: m' := he
              rw [hm] at he'
              injection he' with he' _
              rw [← he']
              have hlt' : 1 < (piece l k (runEnd isDig l k)).length := hlt
              rw [piece_len h2] at hlt'
              unfold numBad at hb
              rw [Bool.or_eq_false_iff, hc] at hb
              have := hb.2
              simp only [Bool.and_eq_false_iff, decide_eq_false_iff_not] at this
              omega
          · split at h
            · rename_i hs
              exact lexM_ok f l (k + 1) _ ts (by omega) h (snoc _ ⟨hkl, .inr (.inr ⟨rfl, ⟨c, hs, rfl⟩, rfl⟩)⟩)
            · cases h
theorem tokensM_ok {l : List UInt8} {ts : List Tok} (h : tokensM l = .ok ts) : ∀ t ∈ ts, TokOk l.length t := by
  unfold tokensM at h
  split at h
  · cases h
  · exact lexM_ok _ l 0 [] ts (by omega) h (by simp)
theorem lexM_err : ∀ (f : Nat) (l : List UInt8) (k : Nat) (acc : List Tok) (er p : Nat), k ≤ l.length → lexM f l k acc = .error (er, p) → (er = 8 ∨ er = 14) ∧ p ≤ l.length
  | 0, l, k, acc, er, p, _, h => by
    unfold lexM at h
    cases h
  | f + 1, l, k, acc, er, p, hk, h => by
    unfold lexM at h
    split at h
    · cases h
    · rename_i c hc
      have hkl : k < l.length := (List.getElem?_eq_some_iff.1 hc).1
      split at h
      · exact lexM_err f l (k + 1) acc er p (by omega) h
      · split at h
        · split at h
          · injection h with h
            injection h with h1 h2
            exact ⟨.inl h1.symm, by omega⟩
          · exact lexM_err f l _ _ er p (runEnd_le inNm l k hk) h
        · split at h
          · split at h
            · rename_i e hn
              injection h with h
              injection h with h1 h2
              refine ⟨?_, by omega⟩
              unfold numM at hn
              split at hn
              · injection hn with hn; omega
              · split at hn
                · injection hn with hn; omega
                · cases hn
            · rename_i e v hn
              obtain ⟨rfl, _, _⟩ := numM_ok hn
              exact lexM_err f l _ _ er p (runEnd_le isDig l k hk) h
          · split at h
            · exact lexM_err f l (k + 1) _ er p (by omega) h
            · injection h with h
              injection h with h1 h2
              exact ⟨.inr h1.symm, by omega⟩
theorem tokensM_err {l : List UInt8} {er p : Nat} (h : tokensM l = .error (er, p)) : (er = 8 ∨ er = 14) ∧ p ≤ l.length := by
  unfold tokensM at h
  split at h
  · injection h with h
    injection h with h1 h2
    exact ⟨.inl h1.symm, by omega⟩
  · exact lexM_err _ l 0 [] er p (by omega) h
section
variable {ts : List Tok} {en L : Nat}
theorem kind_name (hts : ∀ t ∈ ts, TokOk L t) {i : Nat} (h : kindT ts i = 1) : nameB (textT ts i) = true := by
  unfold kindT at h
  unfold textT
  cases hg : ts[i]? with
  | none => rw [hg] at h; cases h
  | some t =>
    rw [hg] at h
    have h' : t.kind = 1 := h
    rcases (hts t (List.mem_of_getElem? hg)).2 with h1 | h1 | h1
    · exact h1.2.1
    · omega
    · omega
theorem kind_num (hts : ∀ t ∈ ts, TokOk L t) {i : Nat} (h : kindT ts i = 2) : litB (nT ts i) = true := by
  unfold kindT at h
  unfold nT
  cases hg : ts[i]? with
  | none => rw [hg] at h; cases h
  | some t =>
    rw [hg] at h
    have h' : t.kind = 2 := h
    rcases (hts t (List.mem_of_getElem? hg)).2 with h1 | h1 | h1
    · omega
    · simp only [litB, decide_eq_true_eq]
      omega
    · omega
theorem list_props (hts : ∀ t ∈ ts, TokOk L t) : ∀ (f i : Nat) (acc r : List Int) (j : Nat), listM ts en f i acc = some (.ok (r, j)) → acc.length ≤ 4096 → acc.all litB = true → r.length ≤ 4096 ∧ r.all litB = true
  | 0, i, acc, r, j, h, _, _ => by unfold listM at h; cases h
  | f + 1, i, acc, r, j, h, hl, ha => by
    unfold listM at h
    split at h
    · cases h
    · rename_i hk
      split at h
      · cases h
      · rename_i h4
        have hn : (acc ++ [nT ts i]).all litB = true := by
          rw [List.all_append, ha]
          simp [kind_num hts (show kindT ts i = 2 by omega)]
        have hlen : (acc ++ [nT ts i]).length ≤ 4096 := by simp; omega
        split at h
        · injection h with h
          injection h with h
          injection h with h1 h2
          subst h1
          exact ⟨hlen, hn⟩
        · split at h
          · exact list_props hts f (i + 2) _ r j h hlen hn
          · cases h
theorem both_props (hts : ∀ t ∈ ts, TokOk L t) : ∀ (f : Nat),
    (∀ d i nd x j nd', exprM ts en f d i nd = some (.ok (x, j, nd')) → nd ≤ 1024 → formE x = true ∧ shortE x = true ∧ d + depthE x ≤ 33 ∧ nd' = nd + sizeE x ∧ nd' ≤ 1024) ∧
    (∀ d i nd acc qs j nd', argsM ts en f d i nd acc = some (.ok (qs, j, nd')) → nd ≤ 1024 → d ≤ 32 → ∃ bs, qs = acc ++ bs ∧ formL bs = true ∧ shortL bs = true ∧ d + 1 + depthL bs ≤ 33 ∧ nd' = nd + sizeL bs ∧ nd' ≤ 1024) := by
  intro f
  induction f with
  | zero => exact ⟨fun d i nd x j nd' h _ => (by unfold exprM at h; cases h), fun d i nd acc qs j nd' h _ _ => (by unfold argsM at h; cases h)⟩
  | succ f ih =>
    refine ⟨fun d i nd x j nd' h hnd => ?_, fun d i nd acc qs j nd' h hnd hd => ?_⟩
    · unfold exprM at h
      split at h
      · cases h
      · rename_i hk
        split at h
        · cases h
        · rename_i hlim
          split at h
          · split at h
            · injection h with h
              injection h with h
              injection h with h1 h2
              injection h2 with h2 h3
              subst h1 h3
              refine ⟨by simp [formE, formL, nodeB], by simp [shortE, shortL], by simp [depthE, depthL]; omega, by simp [sizeE, sizeL], by omega⟩
            · split at h
              · cases h
              · cases h
              · rename_i l j' hl
                injection h with h
                injection h with h
                injection h with h1 h2
                injection h2 with h2 h3
                subst h1 h3
                obtain ⟨p1, p2⟩ := list_props hts _ _ _ _ _ hl (by simp) (by simp)
                refine ⟨by simp only [formE, formL, nodeB, p2]; simp, by simp [shortE, shortL, p1], by simp [depthE, depthL]; omega, by simp [sizeE, sizeL], by omega⟩
          · rename_i hb
            split at h
            · rename_i h2
              injection h with h
              injection h with h
              injection h with h1 h2'
              injection h2' with h2' h3
              subst h1 h3
              refine ⟨by simp only [formE, formL, nodeB, kind_num hts h2]; simp, by simp [shortE, shortL], by simp [depthE, depthL]; omega, by simp [sizeE, sizeL], by omega⟩
            · rename_i h2
              have hk1 : kindT ts i = 1 := by
                rcases Nat.lt_trichotomy (kindT ts i) 1 with h' | h' | h'
                · exact absurd ⟨by omega, h2, by simpa using hb⟩ hk
                · exact h'
                · exact absurd ⟨by omega, h2, by simpa using hb⟩ hk
              have hnm := kind_name hts hk1
              split at h
              · injection h with h
                injection h with h
                injection h with h1 h2'
                injection h2' with h2' h3
                subst h1 h3
                refine ⟨by simp only [formE, formL, nodeB, hnm]; simp, by simp [shortE, shortL], by simp [depthE, depthL]; omega, by simp [sizeE, sizeL], by omega⟩
              · split at h
                · cases h
                · cases h
                · rename_i qs j' nd2 ha
                  injection h with h
                  injection h with h
                  injection h with h1 h2'
                  injection h2' with h2' h3
                  subst h1 h3
                  obtain ⟨bs, e, p1, p2, p3, p4, p5⟩ := ih.2 _ _ _ _ _ _ _ ha (by omega) (by omega)
                  rw [List.nil_append] at e
                  subst e
                  refine ⟨by unfold formE; rw [p1]; simp only [nodeB, hnm]; simp, by unfold shortE; rw [p2]; simp, by unfold depthE; omega, by unfold sizeE; omega, by omega⟩
    · unfold argsM at h
      split at h
      · injection h with h
        injection h with h
        injection h with h1 h2
        injection h2 with h2 h3
        subst h1 h3
        exact ⟨[], by simp, by simp [formL], by simp [shortL], by simp [depthL]; omega, by simp [sizeL], hnd⟩
      · split at h
        · cases h
        · split at h
          · cases h
          · cases h
          · rename_i y j' nd2 he
            obtain ⟨q1, q2, q3, q4, q5⟩ := ih.1 _ _ _ _ _ _ he hnd
            obtain ⟨bs, e, p1, p2, p3, p4, p5⟩ := ih.2 _ _ _ _ _ _ _ h q5 hd
            refine ⟨y :: bs, by rw [e]; simp, by unfold formL; rw [q1, p1]; rfl, by unfold shortL; rw [q2, p2]; rfl, ?_, by unfold sizeL; omega, p5⟩
            unfold depthL
            simp only [Nat.max_def]
            split <;> omega
/-- An error of the parser is at a token, or at the text's end. -/
def ErrAt (ts : List Tok) (en : Nat) (e : Nat × Nat) : Prop := (e.1 = 8 ∨ e.1 = 14) ∧ ∃ i, e.2 = atT ts en i
theorem list_err : ∀ (f i : Nat) (acc : List Int) (e : Nat × Nat), listM ts en f i acc = some (.error e) → ErrAt ts en e
  | 0, i, acc, e, h => by unfold listM at h; cases h
  | f + 1, i, acc, e, h => by
    unfold listM at h
    split at h
    · injection h with h; injection h with h; subst h; exact ⟨.inr rfl, i, rfl⟩
    · split at h
      · injection h with h; injection h with h; subst h; exact ⟨.inl rfl, i, rfl⟩
      · split at h
        · injection h with h; cases h
        · split at h
          · exact list_err f _ _ e h
          · injection h with h; injection h with h; subst h; exact ⟨.inr rfl, i + 1, rfl⟩
theorem both_err : ∀ (f : Nat), (∀ (d i nd : Nat) (e : Nat × Nat), exprM ts en f d i nd = some (.error e) → ErrAt ts en e) ∧ (∀ (d i nd : Nat) (acc : List E) (e : Nat × Nat), argsM ts en f d i nd acc = some (.error e) → ErrAt ts en e) := by
  intro f
  induction f with
  | zero => exact ⟨fun d i nd e h => (by unfold exprM at h; cases h), fun d i nd acc e h => (by unfold argsM at h; cases h)⟩
  | succ f ih =>
    refine ⟨fun d i nd e h => ?_, fun d i nd acc e h => ?_⟩
    · unfold exprM at h
      split at h
      · injection h with h; injection h with h; subst h; exact ⟨.inr rfl, i, rfl⟩
      · split at h
        · injection h with h; injection h with h; subst h; exact ⟨.inl rfl, i, rfl⟩
        · split at h
          · split at h
            · injection h with h; cases h
            · split at h
              · cases h
              · rename_i e' hl
                injection h with h; injection h with h; subst h
                exact list_err _ _ _ _ hl
              · injection h with h; cases h
          · split at h
            · injection h with h; cases h
            · split at h
              · injection h with h; cases h
              · split at h
                · cases h
                · rename_i e' ha
                  injection h with h; injection h with h; subst h
                  exact ih.2 _ _ _ _ _ ha
                · injection h with h; cases h
    · unfold argsM at h
      split at h
      · injection h with h; cases h
      · split at h
        · injection h with h; injection h with h; subst h; exact ⟨.inr rfl, i, rfl⟩
        · split at h
          · cases h
          · rename_i e' he
            injection h with h; injection h with h; subst h
            exact ih.1 _ _ _ _ he
          · exact ih.2 _ _ _ _ _ h
end
/-- What is parsed is of the right form and within the bounds. -/
theorem parse_props {l : List UInt8} {x : E} (h : parseM l = .ok x) : formE x = true ∧ shortE x = true ∧ depthE x ≤ 32 ∧ sizeE x ≤ 1024 := by
  unfold parseM at h
  split at h
  · cases h
  · rename_i ts ht
    split at h
    · cases h
    · cases h
    · rename_i y i nd he
      split at h
      · cases h
      · injection h with h
        subst h
        obtain ⟨h1, h2, h3, h4, h5⟩ := (both_props (tokensM_ok ht) _).1 _ _ _ _ _ _ he (by omega)
        exact ⟨h1, h2, by omega, by omega⟩
theorem parse_check {l : List UInt8} {x : E} (h : parseM l = .ok x) : checkE x = if 65536 < (textE x).length then 8 else 0 := by
  obtain ⟨h1, h2, h3, h4⟩ := parse_props h
  unfold checkE
  rw [h1, if_neg (by simp), if_neg]
  rintro (h | h | h)
  · rw [h2] at h; cases h
  · omega
  · omega
/-- Where a parse's error is. -/
theorem parse_err_at {l : List UInt8} {er p : Nat} (h : parseM l = .error (er, p)) :
    (er = 8 ∨ er = 14) ∧ p ≤ l.length ∧ ((∃ e, tokensM l = .error e ∧ e = (er, p)) ∨ ∃ ts, tokensM l = .ok ts ∧ ((∃ t ∈ ts, t.pos = p) ∨ p = l.length)) := by
  unfold parseM at h
  split at h
  · rename_i e ht
    injection h with h
    subst h
    obtain ⟨h1, h2⟩ := tokensM_err ht
    exact ⟨h1, h2, .inl ⟨_, ht, rfl⟩⟩
  · rename_i ts ht
    have key : ∀ e : Nat × Nat, ErrAt ts l.length e → e = (er, p) → (er = 8 ∨ er = 14) ∧ p ≤ l.length ∧ ((∃ e, tokensM l = .error e ∧ e = (er, p)) ∨ ∃ ts, tokensM l = .ok ts ∧ ((∃ t ∈ ts, t.pos = p) ∨ p = l.length)) := by
      intro e he hep
      subst hep
      obtain ⟨h1, i, h2⟩ := he
      have h2' : p = atT ts l.length i := h2
      unfold atT at h2'
      cases hg : ts[i]? with
      | none =>
        rw [hg] at h2'
        have h3 : p = l.length := h2'
        exact ⟨h1, by omega, .inr ⟨ts, ht, .inr h3⟩⟩
      | some t =>
        rw [hg] at h2'
        have h3 : p = t.pos := h2'
        have hm := List.mem_of_getElem? hg
        have := (tokensM_ok ht t hm).1
        exact ⟨h1, by omega, .inr ⟨ts, ht, .inl ⟨t, hm, h3.symm⟩⟩⟩
    obtain ⟨r, hr, _⟩ := (both_gone (ts := ts) (en := l.length) (2 * ts.length + 4)).1 1 0 0 (by omega) (by omega)
    rw [hr] at h
    cases r with
    | error e =>
      have h' : (Except.error e : Except (Nat × Nat) E) = .error (er, p) := h
      injection h' with h'
      exact key e ((both_err _).1 _ _ _ _ hr) h'
    | ok y =>
      obtain ⟨y, i, nd⟩ := y
      have h' : (if i < ts.length then .error (14, atT ts l.length i) else .ok y : Except (Nat × Nat) E) = .error (er, p) := h
      split at h'
      · injection h' with h'
        exact key _ ⟨.inr rfl, i, rfl⟩ h'
      · cases h'
#print axioms parse_check
#print axioms parse_err_at
end Go.Proofs.YtbjagceopgofiaaDoor
