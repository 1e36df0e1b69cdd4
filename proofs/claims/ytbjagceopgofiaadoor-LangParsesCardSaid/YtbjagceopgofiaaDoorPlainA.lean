/-
  Plain laws of the lexer: what the tokens of a text are, step by step, and what every token is.
-/
import Derived.Test.YtbjagceopgofiaaDoorLexS
import Derived.Test.YtbjagceopgofiaaDoorNode
import Derived.Lib.ItoaMem
namespace Go.Proofs.YtbjagceopgofiaaDoor
open Go.RowKit

/-- The lexer with fuel that suffices. -/
def lexAt (l : List UInt8) (k : Nat) (acc : List Tok) : Except (Nat × Nat) (List Tok) := lexM (l.length - k + 1) l k acc
theorem lexM_fuel : ∀ (f f' : Nat) (l : List UInt8) (k : Nat) (acc : List Tok), k ≤ l.length → l.length - k < f → l.length - k < f' → lexM f l k acc = lexM f' l k acc
  | 0, _, _, _, _, _, h, _ => by omega
  | _ + 1, 0, _, _, _, _, _, h => by omega
  | f + 1, f' + 1, l, k, acc, hk, h, h' => by
    unfold lexM
    cases hc : l[k]? with
    | none => rfl
    | some c =>
      have hkl : k < l.length := (List.getElem?_eq_some_iff.1 hc).1
      simp only []
      split
      · exact lexM_fuel f f' l (k + 1) acc (by omega) (by omega) (by omega)
      · split
        · rename_i hl
          split
          · rfl
          · have h1 := runEnd_gt hc (let_in hl)
            have h2 := runEnd_le inNm l k hk
            exact lexM_fuel f f' l _ _ h2 (by omega) (by omega)
        · split
          · rename_i hd
            cases hn : numM l k with
            | error e => rfl
            | ok ev =>
              obtain ⟨e, v⟩ := ev
              obtain ⟨rfl, _, _⟩ := numM_ok hn
              have h1 := runEnd_gt hc hd
              have h2 := runEnd_le isDig l k hk
              exact lexM_fuel f f' l _ _ h2 (by omega) (by omega)
          · split
            · exact lexM_fuel f f' l (k + 1) _ (by omega) (by omega) (by omega)
            · rfl
theorem lexM_at (f : Nat) (l : List UInt8) (k : Nat) (acc : List Tok) (hk : k ≤ l.length) (h : l.length - k < f) : lexM f l k acc = lexAt l k acc := lexM_fuel f _ l k acc hk h (by omega)
theorem tokensM_at (l : List UInt8) (h : l.length ≤ 65536) : tokensM l = lexAt l 0 [] := by
  unfold tokensM
  rw [if_neg (by omega)]
  exact lexM_at _ l 0 [] (by omega) (by omega)
theorem lexAt_end (l : List UInt8) (acc : List Tok) : lexAt l l.length acc = .ok acc := by
  unfold lexAt
  unfold lexM
  rw [List.getElem?_eq_none (Nat.le_refl _)]
theorem drop_get {l m : List UInt8} {k : Nat} {c : UInt8} (h : l.drop k = c :: m) : l[k]? = some c ∧ k < l.length ∧ l.drop (k + 1) = m := by
  have hk : k < l.length := by
    rcases Nat.lt_or_ge k l.length with h' | h'
    · exact h'
    · rw [List.drop_eq_nil_of_le h'] at h; cases h
  rw [List.drop_eq_getElem_cons hk] at h
  injection h with h1 h2
  exact ⟨by rw [List.getElem?_eq_getElem hk, h1], hk, h2⟩
/-- The rest of a text does not go on with a byte of a name. -/
def SepR (r : List UInt8) : Prop := ∀ c m, r = c :: m → inNm c = false
theorem takeWhile_pre {p : UInt8 → Bool} : ∀ (a r : List UInt8), (∀ c ∈ a, p c = true) → (∀ c m, r = c :: m → p c = false) → (a ++ r).takeWhile p = a
  | [], r, _, h => by
    cases r with
    | nil => rfl
    | cons c m => rw [List.nil_append, List.takeWhile_cons, h c m rfl]; rfl
  | c :: a, r, ha, h => by
    rw [List.cons_append, List.takeWhile_cons, ha c (by simp)]
    simp only [if_true]
    rw [takeWhile_pre a r (fun c hc => ha c (by simp [hc])) h]
theorem runEnd_pre {p : UInt8 → Bool} {l a r : List UInt8} {k : Nat} (h : l.drop k = a ++ r) (ha : ∀ c ∈ a, p c = true) (hr : ∀ c m, r = c :: m → p c = false) : runEnd p l k = k + a.length := by
  unfold runEnd
  rw [h, takeWhile_pre a r ha hr]
theorem piece_pre {l a r : List UInt8} {k : Nat} (h : l.drop k = a ++ r) : piece l k (k + a.length) = a := by
  unfold piece
  rw [h, Nat.add_sub_cancel_left, List.take_left']
  rfl
theorem dig_in {c : UInt8} (h : isDig c = true) : inNm c = true := by simp [inNm, h]
theorem let_not_bl {c : UInt8} (h : isLet c = true) : isBl c = false := by
  simp only [isLet, isBl, decide_eq_true_eq, decide_eq_false_iff_not] at h ⊢
  omega
theorem dig_not {c : UInt8} (h : isDig c = true) : isBl c = false ∧ isLet c = false := by
  simp only [isDig, isLet, isBl, decide_eq_true_eq, decide_eq_false_iff_not] at h ⊢
  omega
theorem sg_not {c : UInt8} (h : isSg c = true) : isBl c = false ∧ isLet c = false ∧ isDig c = false ∧ inNm c = false := by
  have hl : isLet c = false := by
    simp only [isSg, isLet, decide_eq_true_eq, decide_eq_false_iff_not] at h ⊢
    omega
  have hd : isDig c = false := by
    simp only [isSg, isDig, decide_eq_true_eq, decide_eq_false_iff_not] at h ⊢
    omega
  refine ⟨?_, hl, hd, ?_⟩
  · simp only [isSg, isBl, decide_eq_true_eq, decide_eq_false_iff_not] at h ⊢
    omega
  · simp only [inNm, hl, hd, Bool.false_or, decide_eq_false_iff_not]
    simp only [isSg, decide_eq_true_eq] at h
    omega
theorem bl_not {c : UInt8} (h : isBl c = true) : inNm c = false := by
  simp only [isBl, decide_eq_true_eq] at h
  simp only [inNm, isLet, isDig, Bool.or_eq_false_iff, decide_eq_false_iff_not]
  omega
/-- A text that is a name: what the lexer makes of it. -/
def NameOk (a : List UInt8) : Prop := a.length ≤ 16 ∧ (∃ c m, a = c :: m ∧ isLet c = true) ∧ ∀ c ∈ a, inNm c = true
/-- A text that is a number of the language. -/
def NumOk (a : List UInt8) (v : Nat) : Prop := a ≠ [] ∧ (∀ c ∈ a, isDig c = true) ∧ (1 < a.length → ∀ c m, a = c :: m → c.toNat ≠ 48) ∧ valM a 0 = some v

theorem lex_blank {l r : List UInt8} {k : Nat} {c : UInt8} (acc : List Tok) (h : l.drop k = c :: r) (hc : isBl c = true) : lexAt l k acc = lexAt l (k + 1) acc := by
  obtain ⟨hg, hk, _⟩ := drop_get h
  rw [← lexM_at (l.length - k) l (k + 1) acc (by omega) (by omega)]
  unfold lexAt
  rw [lexM, hg]
  simp only [hc, if_true]
theorem lex_sign {l r : List UInt8} {k : Nat} {c : UInt8} (acc : List Tok) (h : l.drop k = c :: r) (hc : isSg c = true) : lexAt l k acc = lexAt l (k + 1) (acc ++ [⟨3, [c], 0, k⟩]) := by
  obtain ⟨hg, hk, _⟩ := drop_get h
  obtain ⟨h1, h2, h3, _⟩ := sg_not hc
  rw [← lexM_at (l.length - k) l (k + 1) _ (by omega) (by omega)]
  unfold lexAt
  rw [lexM, hg]
  simp [h1, h2, h3, hc]
theorem lex_name {l a r : List UInt8} {k : Nat} (acc : List Tok) (h : l.drop k = a ++ r) (ha : NameOk a) (hr : SepR r) : lexAt l k acc = lexAt l (k + a.length) (acc ++ [⟨1, a, 0, k⟩]) := by
  obtain ⟨h16, ⟨c, m, rfl, hc⟩, hin⟩ := ha
  obtain ⟨hg, hk, _⟩ := drop_get (show l.drop k = c :: (m ++ r) from h)
  have he := runEnd_pre h hin hr
  have hp := piece_pre h
  have hle := runEnd_le inNm l k (Nat.le_of_lt hk)
  rw [he] at hle
  have hl1 : 1 ≤ (c :: m).length := by simp
  rw [← lexM_at (l.length - k) l (k + (c :: m).length) _ hle (by omega)]
  unfold lexAt
  rw [lexM, hg]
  simp only [let_not_bl hc, hc, if_true, he, hp, Bool.false_eq_true, if_false]
  rw [if_neg (by omega)]
theorem num_pre {l a r : List UInt8} {k v : Nat} (h : l.drop k = a ++ r) (ha : NumOk a v) (hr : SepR r) : numM l k = .ok (k + a.length, v) := by
  obtain ⟨hne, hd, hz, hv⟩ := ha
  have he : runEnd isDig l k = k + a.length := runEnd_pre h hd (fun c m e => by
    have := hr c m e
    cases hx : isDig c
    · rfl
    · rw [dig_in hx] at this; cases this)
  have hp := piece_pre h
  unfold piece at hp
  have hb : numBad l k (k + a.length) = false := by
    unfold numBad
    rw [Bool.or_eq_false_iff]
    constructor
    · have hg : l[k + a.length]? = (l.drop k)[a.length]? := by rw [List.getElem?_drop]
      rw [hg, h, List.getElem?_append_right (Nat.le_refl _), Nat.sub_self]
      cases r with
      | nil => rfl
      | cons c m =>
        have := hr c m rfl
        simp only [inNm, Bool.or_eq_false_iff] at this
        simp [this.1.1, this.2]
    · cases ha : a with
      | nil => exact absurd ha hne
      | cons c m =>
        rw [ha] at h
        obtain ⟨hg, _, _⟩ := drop_get (show l.drop k = c :: (m ++ r) from h)
        rw [hg]
        by_cases h1 : 1 < (c :: m).length
        · have := hz (by rw [ha]; exact h1) c m ha
          simp [this]
        · rw [decide_eq_false (show ¬ k + 1 < k + (c :: m).length by omega)]
          rfl
  unfold numM
  rw [he, hb]
  simp only [Bool.false_eq_true, if_false]
  rw [hp, hv]
theorem lex_num {l a r : List UInt8} {k v : Nat} (acc : List Tok) (h : l.drop k = a ++ r) (ha : NumOk a v) (hr : SepR r) : lexAt l k acc = lexAt l (k + a.length) (acc ++ [⟨2, a, v, k⟩]) := by
  have hn := num_pre h ha hr
  have hp := piece_pre h
  obtain ⟨hne, hd, _, _⟩ := ha
  cases ha : a with
  | nil => exact absurd ha hne
  | cons c m =>
    subst ha
    obtain ⟨hg, hk, _⟩ := drop_get (show l.drop k = c :: (m ++ r) from h)
    have hc := hd c (by simp)
    obtain ⟨h1, h2⟩ := dig_not hc
    have hle : k + (c :: m).length ≤ l.length := by
      have := congrArg List.length h
      rw [List.length_drop, List.length_append] at this
      omega
    have hl1 : 1 ≤ (c :: m).length := by simp
    rw [← lexM_at (l.length - k) l (k + (c :: m).length) _ hle (by omega)]
    unfold lexAt
    rw [lexM, hg]
    simp only [h1, h2, hc, hn, hp, if_true, Bool.false_eq_true, if_false]
/-! ### The numerals of the program are numbers of the language -/
theorem digit_toNat (d : Nat) (h : d < 10) : (UInt8.ofNat (48 + d)).toNat = 48 + d := by
  rw [UInt8.toNat_ofNat']
  omega
theorem valM_append : ∀ (a b : List UInt8) (v : Nat), valM (a ++ b) v = (valM a v).bind (valM b)
  | [], b, v => by simp [valM]
  | c :: a, b, v => by
    rw [List.cons_append]
    unfold valM
    split
    · rfl
    · exact valM_append a b _
theorem num_dec (n : Nat) (h : n ≤ 9999999) : NumOk (Lib.decDigits n) n := by
  induction n using Nat.strongRecOn with
  | _ n ih =>
    by_cases h10 : n < 10
    · rw [Lib.decDigits_one h10]
      refine ⟨by simp, ?_, by simp, ?_⟩
      · intro c hc
        rw [List.mem_singleton.1 hc]
        simp only [isDig, digit_toNat n h10, decide_eq_true_eq]
        omega
      · simp only [valM, digit_toNat n h10]
        rw [if_neg (by omega)]
        simp
    · have hs : Lib.decDigits n = Lib.decDigits (n / 10) ++ [UInt8.ofNat (48 + n % 10)] := by rw [Lib.decDigits, dif_neg h10]
      obtain ⟨h1, h2, h3, h4⟩ := ih (n / 10) (by omega) (by omega)
      have hfirst : ∀ m : Nat, 1 ≤ m → ∀ c t, Lib.decDigits m = c :: t → c.toNat ≠ 48 := by
        intro m
        induction m using Nat.strongRecOn with
        | _ m ihm =>
          intro hm c t he
          by_cases hm10 : m < 10
          · rw [Lib.decDigits_one hm10] at he
            injection he with he _
            rw [← he, digit_toNat m hm10]
            omega
          · rw [Lib.decDigits, dif_neg hm10] at he
            cases hd : Lib.decDigits (m / 10) with
            | nil =>
              have := Lib.decDigits_length (m / 10)
              rw [hd] at this
              have := Lib.nDigits_pos (m / 10)
              simp at *
              omega
            | cons c' t' =>
              rw [hd] at he
              injection he with he _
              rw [← he]
              exact ihm (m / 10) (by omega) (by omega) c' t' hd
      rw [hs]
      refine ⟨by simp, ?_, fun _ c m he => ?_, ?_⟩
      · intro c hc
        rcases List.mem_append.1 hc with hc | hc
        · exact h2 c hc
        · rw [List.mem_singleton.1 hc]
          simp only [isDig, digit_toNat (n % 10) (by omega), decide_eq_true_eq]
          omega
      · rw [← hs] at he
        exact hfirst n (by omega) c m he
      · rw [valM_append, h4]
        simp only [Option.bind_some, valM, digit_toNat (n % 10) (by omega)]
        rw [if_neg (by omega)]
        congr 1
        omega
theorem num_itoa (z : Int) (h : litB z = true) : NumOk (Lib.itoa z) z.toNat := by
  have hz : 0 ≤ z ∧ z ≤ 9999999 := by simpa [litB] using h
  have := num_dec z.toNat (by omega)
  rw [← Lib.itoa_nonneg] at this
  rwa [Int.toNat_of_nonneg hz.1] at this
theorem name_ok {a : List UInt8} (h : nameB a = true) : NameOk a := by
  simp only [nameB, decide_eq_true_eq] at h
  obtain ⟨h1, h2, h3, h4⟩ := h
  refine ⟨h2, ?_, ?_⟩
  · cases a with
    | nil => exact absurd rfl h1
    | cons c m => exact ⟨c, m, rfl, h3 c rfl⟩
  · intro c hc
    refine runEnd_all inNm a 0 c ?_
    rw [h4]
    simpa [piece] using hc
#print axioms num_itoa
end Go.Proofs.YtbjagceopgofiaaDoor
