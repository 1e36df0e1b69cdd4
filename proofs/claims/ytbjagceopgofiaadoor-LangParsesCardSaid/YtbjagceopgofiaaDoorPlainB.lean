/-
  The plain law of format and parse: the text of a checked expression is parsed as the expression.
-/
import Derived.Test.YtbjagceopgofiaaDoorPlainA
import Derived.Test.YtbjagceopgofiaaDoorFmt
namespace Go.Proofs.YtbjagceopgofiaaDoor
open Go.RowKit

abbrev Sh := Nat × List UInt8 × Nat
def sh (t : Tok) : Sh := (t.kind, t.text, t.n)
def comma : Sh := (3, [44], 0)
def numS (z : Int) : Sh := (2, Lib.itoa z, z.toNat)
def sepS : List (List Sh) → List Sh
  | [] => []
  | x :: r => x ++ (r.map ([comma] ++ ·)).flatten
mutual
/-- The tokens of an expression, their places aside. -/
def shE : E → List Sh
  | .mk k nm n ls xs => if k = 1 then [numS n] else if k = 2 then [(3, [91], 0)] ++ sepS (ls.map fun z => [numS z]) ++ [(3, [93], 0)] else if k = 4 then [(1, nm, 0)] else if k = 3 then [(1, nm, 0), (3, [40], 0)] ++ sepS (shL xs) ++ [(3, [41], 0)] else []
def shL : List E → List (List Sh)
  | [] => []
  | x :: r => shE x :: shL r
end
/-! ### Text to tokens -/
def LexesA (t : List UInt8) (s : List Sh) : Prop := ∀ (l : List UInt8) (k : Nat) (acc : List Tok) (r : List UInt8), l.drop k = t ++ r → ∃ ts, ts.map sh = s ∧ lexAt l k acc = lexAt l (k + t.length) (acc ++ ts)
def Lexes (t : List UInt8) (s : List Sh) : Prop := ∀ (l : List UInt8) (k : Nat) (acc : List Tok) (r : List UInt8), l.drop k = t ++ r → SepR r → ∃ ts, ts.map sh = s ∧ lexAt l k acc = lexAt l (k + t.length) (acc ++ ts)
theorem drop_more {l t u : List UInt8} {k : Nat} (h : l.drop k = t ++ u) : l.drop (k + t.length) = u := by
  rw [← List.drop_drop, h, List.drop_left']
  rfl
theorem LexesA.app {t u : List UInt8} {s v : List Sh} (h : LexesA t s) (hu : Lexes u v) : Lexes (t ++ u) (s ++ v) := by
  intro l k acc r hd hr
  rw [List.append_assoc] at hd
  obtain ⟨ts, h1, h2⟩ := h l k acc _ hd
  obtain ⟨us, h3, h4⟩ := hu l _ (acc ++ ts) r (drop_more hd) hr
  exact ⟨ts ++ us, by rw [List.map_append, h1, h3], by rw [h2, h4, List.length_append, Nat.add_assoc, List.append_assoc]⟩
theorem LexesA.appA {t u : List UInt8} {s v : List Sh} (h : LexesA t s) (hu : LexesA u v) : LexesA (t ++ u) (s ++ v) := by
  intro l k acc r hd
  rw [List.append_assoc] at hd
  obtain ⟨ts, h1, h2⟩ := h l k acc _ hd
  obtain ⟨us, h3, h4⟩ := hu l _ (acc ++ ts) r (drop_more hd)
  exact ⟨ts ++ us, by rw [List.map_append, h1, h3], by rw [h2, h4, List.length_append, Nat.add_assoc, List.append_assoc]⟩
theorem Lexes.app {t u : List UInt8} {s v : List Sh} (h : Lexes t s) (hu : Lexes u v) (hs : ∀ r, SepR r → SepR (u ++ r)) : Lexes (t ++ u) (s ++ v) := by
  intro l k acc r hd hr
  rw [List.append_assoc] at hd
  obtain ⟨ts, h1, h2⟩ := h l k acc _ hd (hs r hr)
  obtain ⟨us, h3, h4⟩ := hu l _ (acc ++ ts) r (drop_more hd) hr
  exact ⟨ts ++ us, by rw [List.map_append, h1, h3], by rw [h2, h4, List.length_append, Nat.add_assoc, List.append_assoc]⟩
theorem LexesA.toLexes {t : List UInt8} {s : List Sh} (h : LexesA t s) : Lexes t s := fun l k acc r hd _ => h l k acc r hd
theorem lexes_nil : LexesA [] [] := fun _ k acc _ _ => ⟨[], rfl, by simp⟩
theorem lexes_sign {c : UInt8} (h : isSg c = true) : LexesA [c] [(3, [c], 0)] := fun _ k acc _ hd => ⟨[⟨3, [c], 0, k⟩], rfl, lex_sign acc hd h⟩
theorem lexes_blank {c : UInt8} (h : isBl c = true) : LexesA [c] [] := fun _ k acc _ hd => ⟨[], rfl, by rw [List.append_nil]; exact lex_blank acc hd h⟩
theorem lexes_name {a : List UInt8} (h : NameOk a) : Lexes a [(1, a, 0)] := fun _ k acc _ hd hr => ⟨[⟨1, a, 0, k⟩], rfl, lex_name acc hd h hr⟩
theorem lexes_num {a : List UInt8} {v : Nat} (h : NumOk a v) : Lexes a [(2, a, v)] := fun _ k acc _ hd hr => ⟨[⟨2, a, v, k⟩], rfl, lex_num acc hd h hr⟩
theorem lexes_comma : LexesA [44, 32] [comma] := (lexes_sign (c := 44) rfl).appA (lexes_blank (c := 32) rfl)
theorem sep_cons {c : UInt8} (h : inNm c = false) (m : List UInt8) : SepR (c :: m) := fun c' m' e => by injection e with e _; rw [← e]; exact h
def tailT (l : List (List UInt8)) : List UInt8 := (l.map ([44, 32] ++ ·)).flatten
def tailS (l : List (List Sh)) : List Sh := (l.map ([comma] ++ ·)).flatten
theorem sep_tail (l : List (List UInt8)) (r : List UInt8) (h : SepR r) : SepR (tailT l ++ r) := by
  cases l with
  | nil => exact h
  | cons x l => exact sep_cons (c := 44) rfl _
/-- Texts and their tokens, pair by pair. -/
inductive Pairs : List (List UInt8) → List (List Sh) → Prop
  | nil : Pairs [] []
  | cons {t s l m} : Lexes t s → Pairs l m → Pairs (t :: l) (s :: m)
theorem lexes_tail {l : List (List UInt8)} {m : List (List Sh)} (h : Pairs l m) : Lexes (tailT l) (tailS m) := by
  induction h with
  | nil => exact lexes_nil.toLexes
  | cons h1 _ ih =>
    have := (lexes_comma.app h1).app ih (sep_tail _)
    simpa [tailT, tailS] using this
theorem lexes_sep {l : List (List UInt8)} {m : List (List Sh)} (h : Pairs l m) : Lexes (sepL l) (sepS m) := by
  cases h with
  | nil => exact lexes_nil.toLexes
  | cons h1 h2 => exact h1.app (lexes_tail h2) (sep_tail _)
theorem pairs_ints : ∀ ls : List Int, ls.all litB = true → Pairs (ls.map Lib.itoa) (ls.map fun z => [numS z])
  | [], _ => .nil
  | z :: r, h => by
    simp only [List.all_cons, Bool.and_eq_true] at h
    exact .cons (lexes_num (num_itoa z h.1)) (pairs_ints r h.2)
theorem sep_sign {c : UInt8} (h : isSg c = true) (r : List UInt8) : SepR ([c] ++ r) := sep_cons (sg_not h).2.2.2 _
theorem nodeB_nm {k : Int} {nm : List UInt8} {n : Int} {ls : List Int} {xs : List E} (h : nodeB (.mk k nm n ls xs) = true) (hk : k = 3 ∨ k = 4) : nameB nm = true := by
  rcases hk with rfl | rfl
  · simp [nodeB] at h; exact h.2.1.2
  · simp [nodeB] at h; exact h.2.1.1.2
mutual
theorem lex_text : ∀ x : E, formE x = true → Lexes (textE x) (shE x)
  | .mk k nm n ls xs, hf => by
    obtain ⟨hn, hl⟩ := formE_mk hf
    have hp := lex_texts xs hl
    unfold textE shE
    rcases nodeB_kind hn with rfl | rfl | rfl | rfl
    · obtain ⟨h0, h1⟩ := nodeB_n hn rfl
      exact lexes_num (num_itoa n (by simp [litB, h0, h1]))
    · have h1 := lexes_sep (pairs_ints ls (nodeB_lits hn))
      exact ((lexes_sign (c := 91) rfl).app h1).app (lexes_sign (c := 93) rfl).toLexes (fun r _ => sep_sign rfl r)
    · have h1 := lexes_sep hp
      have h2 := lexes_name (name_ok (nodeB_nm hn (.inl rfl)))
      have h3 : Lexes (nm ++ [40]) ([(1, nm, 0)] ++ [(3, [40], 0)]) := h2.app (lexes_sign (c := 40) rfl).toLexes (fun r _ => sep_sign rfl r)
      have h4 : LexesA (nm ++ [40]) ([(1, nm, 0)] ++ [(3, [40], 0)]) := fun l k acc r hd => by
        rw [List.append_assoc] at hd
        obtain ⟨ts, a1, a2⟩ := h2 l k acc _ hd (sep_sign rfl r)
        obtain ⟨us, a3, a4⟩ := (lexes_sign (c := 40) rfl) l _ (acc ++ ts) r (drop_more hd)
        exact ⟨ts ++ us, by rw [List.map_append, a1, a3], by rw [a2, a4, List.length_append, Nat.add_assoc, List.append_assoc]⟩
      exact (h4.app h1).app (lexes_sign (c := 41) rfl).toLexes (fun r _ => sep_sign rfl r)
    · exact lexes_name (name_ok (nodeB_nm hn (.inr rfl)))
theorem lex_texts : ∀ l : List E, formL l = true → Pairs (textL l) (shL l)
  | [], _ => by unfold textL shL; exact .nil
  | x :: r, h => by
    unfold formL at h
    simp only [Bool.and_eq_true] at h
    unfold textL shL
    exact .cons (lex_text x h.1) (lex_texts r h.2)
end
/-! ### Tokens to expression -/
section
variable {ts : List Tok} {en : Nat}
def At (ts : List Tok) (i : Nat) (s : List Sh) : Prop := (ts.drop i).map sh = s
theorem at_get {i : Nat} {k n : Nat} {t : List UInt8} {R : List Sh} (h : At ts i ((k, t, n) :: R)) :
    kindT ts i = k ∧ textT ts i = t ∧ nT ts i = (n : Int) ∧ (∀ c, isT ts i c = decide (k = 3 ∧ t = [c])) ∧ At ts (i + 1) R := by
  unfold At at h
  have hi : i < ts.length := by
    rcases Nat.lt_or_ge i ts.length with h' | h'
    · exact h'
    · rw [List.drop_eq_nil_of_le h'] at h; cases h
  rw [List.drop_eq_getElem_cons hi, List.map_cons] at h
  injection h with h1 h2
  have hg : ts[i]? = some ts[i] := List.getElem?_eq_getElem hi
  unfold sh at h1
  injection h1 with a1 a2
  injection a2 with a2 a3
  refine ⟨?_, ?_, ?_, fun c => ?_, h2⟩
  · unfold kindT; rw [hg]; exact a1
  · unfold textT; rw [hg]; exact a2
  · unfold nT; rw [hg]; simp [a3]
  · unfold isT; rw [hg]; simp [a1, a2]
def NoOpen (R : List Sh) : Prop := ∀ k t n R', R = (k, t, n) :: R' → ¬ (k = 3 ∧ t = [40])
theorem isT_noOpen {i : Nat} {R : List Sh} (h : At ts i R) (hn : NoOpen R) : isT ts i 40 = false := by
  cases R with
  | nil =>
    unfold At at h
    have : ts.length ≤ i := by
      rw [List.map_eq_nil_iff, List.drop_eq_nil_iff] at h
      exact h
    unfold isT
    rw [List.getElem?_eq_none this]
  | cons s R' =>
    obtain ⟨k, t, n⟩ := s
    obtain ⟨_, _, _, h4, _⟩ := at_get h
    rw [h4, decide_eq_false (hn k t n R' rfl)]
theorem list_law : ∀ (ls : List Int) (z : Int) (acc : List Int) (i f : Nat) (R : List Sh), At ts i ([numS z] ++ tailS (ls.map fun z => [numS z]) ++ [(3, [93], 0)] ++ R) → 0 ≤ z → (∀ y ∈ ls, 0 ≤ y) → acc.length + 1 + ls.length ≤ 4096 → ls.length < f →
    listM ts en f i acc = some (.ok (acc ++ z :: ls, i + 2 * ls.length + 2))
  | ls, z, acc, i, 0, R, _, _, _, _, hf => by omega
  | [], z, acc, i, f + 1, R, h, hz, _, hl, _ => by
    obtain ⟨h1, _, h3, _, h5⟩ := at_get (show At ts i ((2, Lib.itoa z, z.toNat) :: ((3, [93], 0) :: R)) from h)
    obtain ⟨_, _, _, g4, _⟩ := at_get h5
    unfold listM
    rw [h1]
    simp only [List.length_nil] at hl
    rw [if_neg (by omega), if_neg (by omega), g4 93, if_pos (by simp), h3, Int.toNat_of_nonneg hz]
    rfl
  | y :: ls, z, acc, i, f + 1, R, h, hz, hy, hl, hf => by
    have h' : At ts i ((2, Lib.itoa z, z.toNat) :: (3, [44], 0) :: ([numS y] ++ tailS (ls.map fun z => [numS z]) ++ [(3, [93], 0)] ++ R)) := by
      simpa [tailS, comma, numS] using h
    obtain ⟨h1, _, h3, _, h5⟩ := at_get h'
    obtain ⟨_, _, _, g4, g5⟩ := at_get h5
    have ih := list_law ls y (acc ++ [z]) (i + 1 + 1) f R g5 (hy y (by simp)) (fun a ha => hy a (by simp [ha])) (by simp at hl ⊢; omega) (by simp at hf; omega)
    unfold listM
    rw [h1]
    simp only [List.length_cons] at hl
    rw [if_neg (by omega), if_neg (by omega), g4 93, if_neg (by simp), g4 44, if_pos (by simp), h3, Int.toNat_of_nonneg hz, ih]
    simp only [List.append_assoc, List.length_cons]
    congr 4
    omega
theorem shE_head : ∀ x : E, formE x = true → ∃ k t n R, shE x = (k, t, n) :: R ∧ ¬ (k = 3 ∧ t = [41]) ∧ ¬ (k = 3 ∧ t = [44])
  | .mk k nm n ls xs, hf => by
    obtain ⟨hn, _⟩ := formE_mk hf
    unfold shE
    rcases nodeB_kind hn with rfl | rfl | rfl | rfl
    · exact ⟨_, _, _, _, rfl, by simp, by simp⟩
    · exact ⟨_, _, _, _, rfl, by simp, by simp⟩
    · exact ⟨_, _, _, _, rfl, by simp, by simp⟩
    · exact ⟨_, _, _, _, rfl, by simp, by simp⟩
theorem nodeB_one {nm : List UInt8} {n : Int} {ls : List Int} {xs : List E} (h : nodeB (.mk 1 nm n ls xs) = true) : nm = [] ∧ ls = [] ∧ xs = [] := by
  simp [nodeB] at h
  exact ⟨h.2.1.1.2, h.2.1.2, h.2.2⟩
theorem nodeB_two3 {nm : List UInt8} {n : Int} {ls : List Int} {xs : List E} (h : nodeB (.mk 2 nm n ls xs) = true) : nm = [] ∧ n = 0 ∧ xs = [] := by
  simp [nodeB] at h
  exact ⟨h.2.1.2, h.2.1.1, h.2.2⟩
theorem nodeB_three3 {nm : List UInt8} {n : Int} {ls : List Int} {xs : List E} (h : nodeB (.mk 3 nm n ls xs) = true) : n = 0 ∧ ls = [] := by
  simp [nodeB] at h
  exact ⟨h.2.1.1, h.2.2⟩
theorem nodeB_four3 {nm : List UInt8} {n : Int} {ls : List Int} {xs : List E} (h : nodeB (.mk 4 nm n ls xs) = true) : n = 0 ∧ ls = [] ∧ xs = [] := by
  simp [nodeB] at h
  exact ⟨h.2.1.1.1, h.2.1.2, h.2.2⟩
theorem lits_pos {ls : List Int} (h : ls.all litB = true) : ∀ y ∈ ls, 0 ≤ y := fun y hy => by
  have := List.all_eq_true.1 h y hy
  have h2 : 0 ≤ y ∧ y ≤ 9999999 := by simpa [litB] using this
  exact h2.1
theorem tailS_ints_len : ∀ ls : List Int, (tailS (ls.map fun z => [numS z])).length = 2 * ls.length
  | [] => rfl
  | z :: r => by
    have := tailS_ints_len r
    simp [tailS] at this ⊢
    omega
mutual
theorem expr_law : ∀ (x : E) (f d i nd : Nat) (R : List Sh), formE x = true → shortE x = true → At ts i (shE x ++ R) → NoOpen R → d + depthE x ≤ 33 → nd + sizeE x ≤ 1024 → 2 * (shE x).length ≤ f →
    exprM ts en f d i nd = some (.ok (x, i + (shE x).length, nd + sizeE x))
  | .mk k nm n ls xs, 0, d, i, nd, R, hf, _, _, _, _, _, hfu => by
    obtain ⟨_, _, _, _, he, _⟩ := shE_head _ hf
    rw [he] at hfu
    simp at hfu
  | .mk k nm n ls xs, f + 1, d, i, nd, R, hf, hsh, hat, hno, hd, hnd, hfu => by
    obtain ⟨hn, hfl⟩ := formE_mk hf
    unfold shortE at hsh
    simp only [Bool.and_eq_true, decide_eq_true_eq] at hsh
    have hs1 : sizeE (.mk k nm n ls xs) = 1 + sizeL xs := by unfold sizeE; rfl
    have hd1 : depthE (.mk k nm n ls xs) = depthL xs + 1 := by unfold depthE; rfl
    rw [hs1] at hnd ⊢
    rw [hd1] at hd
    have hlim : ¬ (32 < d ∨ nd = 1024) := by omega
    unfold shE at hat hfu ⊢
    unfold exprM
    rcases nodeB_kind hn with rfl | rfl | rfl | rfl
    · obtain ⟨rfl, rfl, rfl⟩ := nodeB_one hn
      obtain ⟨h0, _⟩ := nodeB_n hn rfl
      obtain ⟨h1, _, h3, h4, _⟩ := at_get (show At ts i ((2, Lib.itoa n, n.toNat) :: R) from hat)
      rw [h1, h4 91, if_neg (by simp), if_neg hlim, if_neg (by simp), if_pos rfl, h3, Int.toNat_of_nonneg h0]
      simp [sizeL]
    · obtain ⟨rfl, rfl, rfl⟩ := nodeB_two3 hn
      have hlp := lits_pos (nodeB_lits hn)
      cases ls with
      | nil =>
        obtain ⟨h1, _, _, h4, h5⟩ := at_get (show At ts i ((3, [91], 0) :: (3, [93], 0) :: R) from hat)
        obtain ⟨_, _, _, g4, _⟩ := at_get h5
        rw [h1, h4 91, if_neg (by simp), if_neg hlim, if_pos (by simp), g4 93, if_pos (by simp)]
        simp [sizeL, sepS]
      | cons z ls =>
        have hat' : At ts i ((3, [91], 0) :: ([numS z] ++ tailS (ls.map fun z => [numS z]) ++ [(3, [93], 0)] ++ R)) := by
          simpa [sepS, tailS] using hat
        obtain ⟨h1, _, _, h4, h5⟩ := at_get hat'
        obtain ⟨_, _, _, g4, _⟩ := at_get (show At ts (i + 1) ((2, Lib.itoa z, z.toNat) :: (tailS (ls.map fun z => [numS z]) ++ [(3, [93], 0)] ++ R)) by simpa [numS] using h5)
        have htl := tailS_ints_len ls
        have hlen : ([(3, [91], 0)] ++ sepS (((z :: ls).map fun z => [numS z])) ++ [(3, [93], 0)] : List Sh).length = 2 * ls.length + 3 := by
          simp [sepS, tailS] at htl ⊢
          omega
        have hl : ls.length + 1 ≤ 4096 := by simpa using hsh.1
        have hfu' : 2 * (2 * ls.length + 3) ≤ f + 1 := by rw [← hlen]; simpa using hfu
        have hll := list_law (en := en) ls z [] (i + 1) f R h5 (hlp z (by simp)) (fun y hy => hlp y (by simp [hy])) (by simp; omega) (by omega)
        rw [h1, h4 91, if_neg (by simp), if_neg hlim, if_pos (by simp), g4 93, if_neg (by simp), hll]
        simp only [List.nil_append, sizeL]
        have hj : i + 1 + 2 * ls.length + 2 = i + (2 * ls.length + 3) := by omega
        rw [hj, ← hlen]
        rfl
    · obtain ⟨rfl, rfl⟩ := nodeB_three3 hn
      have hat' : At ts i ((1, nm, 0) :: (3, [40], 0) :: (sepS (shL xs) ++ ([(3, [41], 0)] ++ R))) := by
        simpa using hat
      obtain ⟨h1, h2, _, h4, h5⟩ := at_get hat'
      obtain ⟨_, _, _, g4, g5⟩ := at_get h5
      have hlen : ([(1, nm, 0), (3, [40], 0)] ++ sepS (shL xs) ++ [(3, [41], 0)] : List Sh).length = (sepS (shL xs)).length + 3 := by
        simp
      have hfu' : 2 * ((sepS (shL xs)).length + 3) ≤ f + 1 := by rw [← hlen]; simpa using hfu
      have ha := args_law xs f d (i + 1 + 1) (nd + 1) [] R hfl hsh.2 g5 (by omega) (by omega) (by simp; omega)
      rw [h1, h4 91, if_neg (by simp), if_neg hlim, if_neg (by simp), if_neg (by simp), g4 40, if_neg (by simp), h2, ha]
      simp only [List.nil_append]
      congr 3
      · simp
        omega
    · obtain ⟨rfl, rfl, rfl⟩ := nodeB_four3 hn
      obtain ⟨h1, h2, _, h4, h5⟩ := at_get (show At ts i ((1, nm, 0) :: R) from hat)
      rw [h1, h4 91, if_neg (by simp), if_neg hlim, if_neg (by simp), if_neg (by simp), isT_noOpen h5 hno, if_pos rfl, h2]
      simp [sizeL]
theorem args_law : ∀ (xs : List E) (f d i nd : Nat) (acc : List E) (R : List Sh), formL xs = true → shortL xs = true → At ts i ((if acc.length = 0 then sepS (shL xs) else tailS (shL xs)) ++ ([(3, [41], 0)] ++ R)) → d + 1 + depthL xs ≤ 33 → nd + sizeL xs ≤ 1024 → 2 * (if acc.length = 0 then sepS (shL xs) else tailS (shL xs)).length + 3 ≤ f →
    argsM ts en f d i nd acc = some (.ok (acc ++ xs, i + (if acc.length = 0 then sepS (shL xs) else tailS (shL xs)).length + 1, nd + sizeL xs))
  | xs, 0, d, i, nd, acc, R, _, _, _, _, _, hfu => by omega
  | [], f + 1, d, i, nd, acc, R, _, _, hat, _, _, _ => by
    have hat' : At ts i ((3, [41], 0) :: R) := by
      unfold shL at hat
      simpa [sepS, tailS] using hat
    obtain ⟨_, _, _, h4, _⟩ := at_get hat'
    unfold argsM
    rw [h4 41, if_pos (by simp)]
    simp [shL, sepS, tailS, sizeL]
  | x :: r, f + 1, d, i, nd, acc, R, hf, hs, hat, hd, hnd, hfu => by
    unfold formL at hf
    unfold shortL at hs
    simp only [Bool.and_eq_true] at hf hs
    unfold depthL at hd
    unfold sizeL at hnd ⊢
    have hdx : depthE x ≤ Nat.max (depthE x) (depthL r) := Nat.le_max_left _ _
    have hdr : depthL r ≤ Nat.max (depthE x) (depthL r) := Nat.le_max_right _ _
    obtain ⟨k, t, n, S, hx, hx1, hx2⟩ := shE_head x hf.1
    unfold shL at hat hfu ⊢
    have hnoR : NoOpen (tailS (shL r) ++ ([(3, [41], 0)] ++ R)) := by
      intro k t n R' he
      cases hr : shL r with
      | nil =>
        rw [hr] at he
        simp [tailS] at he
        rintro ⟨_, h2⟩
        rw [← he.1.2.1] at h2
        simp at h2
      | cons a b =>
        rw [hr] at he
        simp [tailS, comma] at he
        rintro ⟨_, h2⟩
        rw [← he.1.2.1] at h2
        simp at h2
    have hfl : 1 ≤ (shE x).length := by rw [hx]; simp
    by_cases h0 : acc.length = 0
    · simp only [h0, if_true, sepS] at hat hfu ⊢
      have hat' : At ts i (shE x ++ (tailS (shL r) ++ ([(3, [41], 0)] ++ R))) := by
        simpa [tailS] using hat
      have hfu' : 2 * ((shE x).length + (tailS (shL r)).length) + 3 ≤ f + 1 := by
        simpa [tailS] using hfu
      obtain ⟨_, _, _, h4, _⟩ := at_get (show At ts i ((k, t, n) :: (S ++ (tailS (shL r) ++ ([(3, [41], 0)] ++ R)))) by rw [hx] at hat'; exact hat')
      have he := expr_law x f (d + 1) i nd _ hf.1 hs.1 hat' hnoR (by omega) (by omega) (by omega)
      have hat2 : At ts (i + (shE x).length) (tailS (shL r) ++ ([(3, [41], 0)] ++ R)) := by
        unfold At at hat' ⊢
        rw [← List.drop_drop, List.map_drop, hat', List.drop_left']
        rfl
      have hl1 : (acc ++ [x]).length ≠ 0 := by simp
      have ha := args_law r f d (i + (shE x).length) (nd + sizeE x) (acc ++ [x]) R hf.2 hs.2 (by rw [if_neg hl1]; exact hat2) (by omega) (by omega) (by rw [if_neg hl1]; omega)
      rw [if_neg hl1] at ha
      unfold argsM
      rw [h4 41, if_neg (by simpa using hx1), if_neg (by simp [h0])]
      simp only [h0, ne_eq, not_true_eq_false, if_false]
      rw [he]
      simp only []
      rw [ha]
      simp only [List.append_assoc, List.singleton_append, Nat.add_assoc]
      congr 4
      simp [tailS]
      omega
    · simp only [h0, if_false] at hat hfu ⊢
      have hat' : At ts i ((3, [44], 0) :: (shE x ++ (tailS (shL r) ++ ([(3, [41], 0)] ++ R)))) := by
        simpa [tailS, comma] using hat
      have hfu' : 2 * (1 + (shE x).length + (tailS (shL r)).length) + 3 ≤ f + 1 := by
        have : (tailS (shE x :: shL r)).length = 1 + (shE x).length + (tailS (shL r)).length := by simp [tailS]; omega
        rw [← this]
        exact hfu
      obtain ⟨_, _, _, h4, h5⟩ := at_get hat'
      have he := expr_law x f (d + 1) (i + 1) nd _ hf.1 hs.1 h5 hnoR (by omega) (by omega) (by omega)
      have hat2 : At ts (i + 1 + (shE x).length) (tailS (shL r) ++ ([(3, [41], 0)] ++ R)) := by
        unfold At at h5 ⊢
        rw [← List.drop_drop, List.map_drop, h5, List.drop_left']
        rfl
      have hl1 : (acc ++ [x]).length ≠ 0 := by simp
      have ha := args_law r f d (i + 1 + (shE x).length) (nd + sizeE x) (acc ++ [x]) R hf.2 hs.2 (by rw [if_neg hl1]; exact hat2) (by omega) (by omega) (by rw [if_neg hl1]; omega)
      rw [if_neg hl1] at ha
      unfold argsM
      rw [h4 41, if_neg (by simp), h4 44, if_neg (by simp)]
      simp only [h0, ne_eq, not_false_eq_true, if_true]
      rw [he]
      simp only []
      rw [ha]
      simp only [List.append_assoc, List.singleton_append, Nat.add_assoc]
      congr 4
      simp [tailS]
      omega
end
end
/-- The text of a checked expression is parsed as the expression. -/
theorem parse_text (x : E) (h : checkE x = 0) : parseM (textE x) = .ok x := by
  obtain ⟨hf, hsh, hd, hs, ht⟩ := checkE_zero h
  obtain ⟨ts, h1, h2⟩ := lex_text x hf (textE x) 0 [] [] (by simp) (fun c m e => by cases e)
  rw [Nat.zero_add, lexAt_end, List.nil_append] at h2
  have htok : tokensM (textE x) = .ok ts := by rw [tokensM_at _ ht, h2]
  have hlen : ts.length = (shE x).length := by rw [← h1, List.length_map]
  have he := expr_law (ts := ts) (en := (textE x).length) x (2 * ts.length + 4) 1 0 0 [] hf hsh (by unfold At; rw [List.append_nil]; exact h1) (fun _ _ _ _ e => by cases e) (by omega) (by omega) (by omega)
  unfold parseM
  rw [htok]
  simp only []
  rw [he]
  simp [hlen]
#print axioms parse_text
end Go.Proofs.YtbjagceopgofiaaDoor
