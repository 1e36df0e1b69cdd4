/-
  lang.scan: all tokens of a text, or the parser's panic.
-/
import Derived.Test.YtbjagceopgofiaaDoorLexC
import Derived.Test.YtbjagceopgofiaaDoorShelf
import Derived.OwnWalk
import Derived.Deep.AppendLies
namespace Go.Proofs.YtbjagceopgofiaaDoor
open Go.RowKit

def tokCells (t : Tok) : List Value := [.int .i64 t.kind, .string ⟨t.text.toArray⟩, .int .i64 t.n, .int .i64 t.pos]
def toksCells (ts : List Tok) : List Value := ts.flatMap tokCells
theorem toksCells_len (ts : List Tok) : (toksCells ts).length = ts.length * 4 := by
  induction ts with
  | nil => rfl
  | cons t r ih =>
    have h : toksCells (t :: r) = tokCells t ++ toksCells r := rfl
    rw [h, List.length_append, ih, List.length_cons]
    simp [tokCells]
    omega
theorem toksCells_snoc (ts : List Tok) (t : Tok) : toksCells (ts ++ [t]) = toksCells ts ++ tokCells t := by simp [toksCells]
theorem toksCells_one (ts : List Tok) : ∀ v ∈ toksCells ts, v.oneCell' = true := by
  intro v hv
  obtain ⟨t, _, h⟩ := List.mem_flatMap.1 hv
  simp [tokCells] at h
  rcases h with rfl | rfl | rfl | rfl <;> rfl

/-- A slice of the call's own that holds the tokens. -/
def OwnToks (w : World) (base : Nat) (v : Value) (ts : List Tok) : Prop := w.ownsRow base 40 4 v ts.length (toksCells ts)

theorem OwnToks.last {w : World} {base : Nat} {v : Value} {ts : List Tok} {t : Tok} (h : OwnToks w base v (ts ++ [t])) :
    ∃ g cap, v = .slice (some ⟨g, 0, none⟩) (ts.length + 1) cap ∧ w.cell? ⟨g, ts.length * 4 + 1, none⟩ = some (.string ⟨t.text.toArray⟩) := by
  have h' : w.ownsRow base 40 4 v (ts ++ [t]).length (toksCells (ts ++ [t])) := h
  rcases h.2 with ⟨_, h0⟩ | ⟨g, cap, cur, rfl, _⟩
  · simp at h0
  · refine ⟨g, cap, by simp, ?_⟩
    rw [h'.cellAt (ts.length * 4 + 1) (by simp; omega), toksCells_snoc, List.getElem?_append_right (by rw [toksCells_len]; omega), toksCells_len, show ts.length * 4 + 1 - ts.length * 4 = 1 by omega]
    rfl

theorem OwnToks.grow {w w' : World} {base : Nat} {v : Value} {ts : List Tok} (h : OwnToks w base v ts) (hb : Below w.heap.size w w') : OwnToks w' base v ts :=
  World.ownsRow.kept h (row := none) ⟨hb.os, hb.tape, hb.output, hb.size, fun i hi _ => hb.block i hi⟩ (by cases hv : v.ownBlock <;> simp)
theorem tokInfo : (Tryd.prog.info? 40).map (fun i => (i.zero, i.size, i.bytes)) = some (some (.agg #[.int .i64 0, .string ⟨#[]⟩, .int .i64 0, .int .i64 0]), 4, 40) := by kernel_rfl

def RelScan (w : World) (s : ByteArray) (R : Except (Nat × Nat) (List Tok)) (v i : Value) (wr : World) : Prop :=
  ∃ (k f : Nat) (acc : List Tok), k ≤ s.size ∧ s.size < k + f ∧ i = .int .i64 k ∧ lexM f s.data.toList k acc = R ∧ acc.length ≤ k ∧ OwnToks wr w.heap.size v acc ∧ Below w.heap.size w wr
def scanPost (w : World) (R : Except (Nat × Nat) (List Tok)) (x : Ending) (w' : World) : Prop :=
  match R with
  | .ok ts => ∃ v, x = .returned v ∧ OwnToks w' w.heap.size v ts ∧ Below w.heap.size w w'
  | .error (er, p) => x = .panicked [{ v := faultV er p, recovered := false }] ∧ Below w.heap.size w w'

theorem lexM_bl {f k : Nat} {l : List UInt8} {acc : List Tok} {c : UInt8} (hc : l[k]? = some c) (h : isBl c = true) : lexM (f + 1) l k acc = lexM f l (k + 1) acc := by
  simp [lexM, hc, h]
theorem not_bl_of_let {c : UInt8} (h : isLet c = true) : isBl c = false := by simp [isLet] at h; simp [isBl]; omega
theorem not_bl_of_dig {c : UInt8} (h : isDig c = true) : isBl c = false := by simp [isDig] at h; simp [isBl]; omega
theorem not_let_of_dig {c : UInt8} (h : isDig c = true) : isLet c = false := by simp [isDig] at h; simp [isLet]; omega
theorem not_bl_of_sg {c : UInt8} (h : isSg c = true) : isBl c = false := by simp [isSg] at h; simp [isBl]; omega
theorem not_let_of_sg {c : UInt8} (h : isSg c = true) : isLet c = false := by simp [isSg] at h; simp [isLet]; omega
theorem not_dig_of_sg {c : UInt8} (h : isSg c = true) : isDig c = false := by simp [isSg] at h; simp [isDig]; omega
theorem lexM_name {f k : Nat} {l : List UInt8} {acc : List Tok} {c : UInt8} (hc : l[k]? = some c) (h : isLet c = true) :
    lexM (f + 1) l k acc = if k + 16 < runEnd inNm l k then .error (8, k) else lexM f l (runEnd inNm l k) (acc ++ [⟨1, piece l k (runEnd inNm l k), 0, k⟩]) := by
  simp [lexM, hc, h, not_bl_of_let h]
theorem lexM_num_err {f k e : Nat} {l : List UInt8} {acc : List Tok} {c : UInt8} (hc : l[k]? = some c) (h : isDig c = true) (hn : numM l k = .error e) : lexM (f + 1) l k acc = .error (e, k) := by
  simp [lexM, hc, h, not_bl_of_dig h, not_let_of_dig h, hn]
theorem lexM_num_ok {f k e v : Nat} {l : List UInt8} {acc : List Tok} {c : UInt8} (hc : l[k]? = some c) (h : isDig c = true) (hn : numM l k = .ok (e, v)) : lexM (f + 1) l k acc = lexM f l e (acc ++ [⟨2, piece l k e, v, k⟩]) := by
  simp [lexM, hc, h, not_bl_of_dig h, not_let_of_dig h, hn]
theorem lexM_sign {f k : Nat} {l : List UInt8} {acc : List Tok} {c : UInt8} (hc : l[k]? = some c) (h : isSg c = true) :
    lexM (f + 1) l k acc = lexM f l (k + 1) (acc ++ [⟨3, [c], 0, k⟩]) := by
  simp [lexM, hc, h, not_bl_of_sg h, not_let_of_sg h, not_dig_of_sg h]
theorem lexM_bad {f k : Nat} {l : List UInt8} {acc : List Tok} {c : UInt8} (hc : l[k]? = some c) (h1 : isBl c = false) (h2 : isLet c = false) (h3 : isDig c = false) (h4 : isSg c = false) :
    lexM (f + 1) l k acc = .error (14, k) := by
  simp [lexM, hc, h1, h2, h3, h4]
theorem lexM_end {f k : Nat} {l : List UInt8} {acc : List Tok} (h : l.length ≤ k) : lexM f l k acc = .ok acc := by
  cases f with
  | zero => rfl
  | succ f => simp [lexM, List.getElem?_eq_none h]
theorem piece_one {l : List UInt8} {k : Nat} {c : UInt8} (h : l[k]? = some c) : piece l k (k + 1) = [c] := by
  have hk : k < l.length := (List.getElem?_eq_some_iff.1 h).1
  unfold piece
  rw [List.drop_eq_getElem_cons hk, Nat.add_sub_cancel_left]
  simp [(List.getElem?_eq_some_iff.1 h).2]
theorem sign_index (c : UInt8) : decide (0 ≤ Lib.indexByte [40, 41, 91, 93, 44] c) = isSg c := by
  have : ∀ n : Fin 256, decide (0 ≤ Lib.indexByte [40, 41, 91, 93, 44] (UInt8.ofNat n.val)) = isSg (UInt8.ofNat n.val) := by decide +kernel
  have h := this ⟨c.toNat, c.toNat_lt⟩
  simpa using h
theorem int_eq {a b : Int} (h : a = b) : Value.int .i64 a = .int .i64 b := by rw [h]
theorem piece_len {l : List UInt8} {a b : Nat} (h : b ≤ l.length) : (piece l a b).length = b - a := by unfold piece; simp; omega
theorem sgIdx_c (c : UInt8) (w : World) : Calls Tryd.prog 52 #[.string ⟨#[40, 41, 91, 93, 44]⟩, .int .u8 c.toNat] w fun e w' => e = .returned (.int .i64 (Lib.indexByte [40, 41, 91, 93, 44] c)) ∧ w = w' :=
  (Tryd.strings_IndexByte ⟨#[40, 41, 91, 93, 44]⟩ c.toNat w).mono fun _ _ ⟨he, hw⟩ => ⟨by rw [he]; simp, hw.symm⟩
theorem sg_yes {c : UInt8} (h : isSg c = true) : 0 ≤ Lib.indexByte [40, 41, 91, 93, 44] c := by have := sign_index c; rw [h] at this; simpa using this
theorem sg_no {c : UInt8} (h : isSg c = false) : Lib.indexByte [40, 41, 91, 93, 44] c < 0 := by have := sign_index c; rw [h] at this; simpa using this

set_option maxHeartbeats 8000000 in
set_option maxRecDepth 100000 in
theorem scan_c (s : ByteArray) (w : World) : Calls Tryd.prog 26 #[.string s] w (scanPost w (tokensM s.data.toList)) := by
  by_cases hbig : 65536 < s.size
  · have HR : Hid (tokensM s.data.toList = .error (8, 0)) := by
      show _ = _
      unfold tokensM
      rw [len_data, if_pos hbig]
    go_enter Tryd.func26, Tryd.ntmps26
    go_wp2_with fail
    refine (fail_c _ _ _).mono ?_
    rintro x w' ⟨rfl, rfl⟩
    go_wp2_with fail
    refine ⟨rfl, ?_⟩
    rw [HR.out]
    exact ⟨rfl, Below.refl _ _⟩
  · have HR : Hid (tokensM s.data.toList = lexM (s.size + 1) s.data.toList 0 []) := by
      show _ = _
      unfold tokensM
      rw [len_data, if_neg hbig]
    have hs : s.size ≤ 65536 := by omega
    obtain ⟨i0, hi, hz0, hz1, hz2⟩ := info_parts tokInfo
    have HI := Lib.hid hi
    have HZ0 := Lib.hid hz0
    have HZ1 := Lib.hid hz1
    have HZ2 := Lib.hid hz2
    clear hi hz0 hz1 hz2
    go_enter Tryd.func26, Tryd.ntmps26
    go_wp2_with fail
    go_loopw [3, 4] (fun v i wr => RelScan w s (tokensM s.data.toList) v i wr) (fun _ i _ => s.size - (intOf i).toNat)
    case atStart => exact ⟨0, s.size + 1, [], by omega, by omega, rfl, HR.out.symm, by simp, World.ownsRow_nil _ _ _ _, Below.refl _ _⟩
    case round =>
      obtain ⟨k, f, acc, hk, hf, rfl, hlex, hacc, hown, hb⟩ := hrel
      have HL := Lib.hid hlex
      have HO := Lib.hid hown
      have HB := Lib.hid hb
      clear hlex hown hb HR
      by_cases hlt : k < s.size
      · obtain ⟨f, rfl⟩ : ∃ f', f = f' + 1 := ⟨f - 1, by omega⟩
        have HC := Lib.hid (byte_at s k hlt)
        have hc256 : s[k].toNat < 256 := s[k].toNat_lt
        cases hbl : isBl s[k]
        · have hn1 : ¬ (s[k].toNat = 32 ∨ s[k].toNat = 9 ∨ s[k].toNat = 10) := by simpa [isBl] using hbl
          have hq1 : (((s[k].toNat : Nat) : Int) == 32) = false := by simp; omega
          have hq2 : (((s[k].toNat : Nat) : Int) == 9) = false := by simp; omega
          have hq3 : (((s[k].toNat : Nat) : Int) == 10) = false := by simp; omega
          clear hn1
          have HBL := Lib.hid hbl
          clear hbl
          cases hl : isLet s[k]
          · cases hd : isDig s[k]
            · cases hsg : isSg s[k]
              · have hi0 := sg_no hsg
                have HLE := Lib.hid (lexM_bad (f := f) (acc := acc) HC.out HBL.out hl hd hsg)
                go_wp2_with (first
                  | (go_at_call 47; refine (isLetter_c _ _).mono ?_; rintro e w' ⟨rfl, rfl⟩)
                  | (go_at_call 50; refine (isDigit_c _ _).mono ?_; rintro e w' ⟨rfl, rfl⟩)
                  | (go_at_call 52; refine (sgIdx_c _ _).mono ?_; rintro e w' ⟨rfl, rfl⟩))
                refine (fail_c _ _ _).mono ?_
                rintro x w' ⟨rfl, rfl⟩
                go_wp2_with fail
                refine ⟨rfl, ?_⟩
                rw [← HL.out, HLE.out]
                exact ⟨rfl, HB.out⟩
              · have hi0 := sg_yes hsg
                have HLE := Lib.hid (lexM_sign (f := f) (acc := acc) HC.out hsg)
                have hT : s.extract k (k + 1) = ⟨[s[k]].toArray⟩ := by rw [piece_str, piece_one HC.out]
                have HPL : Hid (True) := trivial
                go_wp2_with (first
                  | (go_at_call 47; refine (isLetter_c _ _).mono ?_; rintro e w' ⟨rfl, rfl⟩)
                  | (go_at_call 50; refine (isDigit_c _ _).mono ?_; rintro e w' ⟨rfl, rfl⟩)
                  | (go_at_call 52; refine (sgIdx_c _ _).mono ?_; rintro e w' ⟨rfl, rfl⟩)
                  | (at_builtin; refine wpList_append_own _ rfl (.tmp 67) (.tmp 75) 36 rfl w.heap.size 40 i0 _ 4 40 Tryd.underlying36 HI.out HZ0.out HZ1.out HZ2.out rfl (by decide) _ acc.length (toksCells acc) rfl (HO.out.alloc _) ⟨wr.heap.size, 0, none⟩ 1 1 (tokCells ⟨3, [s[k]], 0, k⟩) rfl rfl ?c1 ?c2 ?c3 ?c4 ?c5 ?_))
                case c1 => exact World.news_of_block (cs := #[.int .i64 3, .string ⟨[s[k]].toArray⟩, .int .i64 0, .int .i64 k]) (t := 40) (fr := (0, 0)) (heap_alloc_new wr _)
                case c2 => intro u hu; simp [tokCells] at hu; rcases hu with rfl | rfl | rfl | rfl <;> rfl
                case c3 => unfold maxLen; omega
                case c4 => omega
                case c5 => have := HB.out.size; simp; omega
                intro v' w1 hown' hg _
                have HO' : Hid (OwnToks w1 w.heap.size v' (acc ++ [⟨3, [s[k]], 0, k⟩])) := by
                  show w1.ownsRow _ _ _ _ _ _
                  rw [List.length_append, toksCells_snoc]
                  exact hown'
                have HB' : Hid (Below w.heap.size w w1) := (HB.out.alloc HB.out.size _).grown hg (by have := HB.out.size; simp; omega) (fun k hk => (HO.out.lt k hk).1)
                clear hown' hg
                obtain ⟨g, cap, rfl, hcell⟩ := HO'.out.last
                go_wp2_with fail
                go_roundw
                case rel => exact ⟨k + 1, f, _, by omega, by omega, int_eq (by first | (rw [HPL.out]; omega) | (simp; done)), by rw [← HL.out, HLE.out], by simp; omega, HO'.out, HB'.out⟩
                case measure => have hplx := HPL.out; simp [intOf]; omega
            · have HE := Lib.hid (runEnd_gt HC.out hd)
              have HE2 := Lib.hid (runEnd_le isDig s.data.toList k (by rw [len_data]; omega))
              cases hn : numM s.data.toList k with
              | error er =>
                have HLE := Lib.hid (lexM_num_err (f := f) (acc := acc) HC.out hd hn)
                have HN := Lib.hid hn
                clear hn
                go_wp2_with (first
                | (go_at_call 47; refine (isLetter_c _ _).mono ?_; rintro e w' ⟨rfl, rfl⟩)
                | (go_at_call 50; refine (isDigit_c _ _).mono ?_; rintro e w' ⟨rfl, rfl⟩)
                | (go_at_call 48; refine (while_in _ _ _ hs hk).mono ?_; rintro e w' ⟨rfl, rfl⟩))
                refine (number_c s k _ hs hlt).mono ?_
                intro x w2 hp
                rw [HN.out] at hp
                obtain ⟨rfl, hb2⟩ := hp
                have HB2 := Lib.hid hb2
                clear hb2
                go_wp2_with fail
                refine ⟨rfl, ?_⟩
                rw [← HL.out, HLE.out]
                exact ⟨rfl, HB.out.trans (HB2.out.mono HB.out.size)⟩
              | ok ev =>
                obtain ⟨e, v⟩ := ev
                have HLE := Lib.hid (lexM_num_ok (f := f) (acc := acc) HC.out hd hn)
                have HN := Lib.hid hn
                obtain ⟨he, _, _⟩ := numM_ok hn
                have hE : k < e := by rw [he]; exact HE.out
                have hE2 : e ≤ s.size := by have := HE2.out; rw [len_data] at this; rw [he]; exact this
                have HPL := Lib.hid (piece_len (l := s.data.toList) (a := k) (b := e) (by rw [len_data]; exact hE2))
                have hpl : (piece s.data.toList k e).length ≤ 65536 := by rw [HPL.out]; omega
                clear hn he
                go_wp2_with (first
                | (go_at_call 47; refine (isLetter_c _ _).mono ?_; rintro e w' ⟨rfl, rfl⟩)
                | (go_at_call 50; refine (isDigit_c _ _).mono ?_; rintro e w' ⟨rfl, rfl⟩)
                | (go_at_call 48; refine (while_in _ _ _ hs hk).mono ?_; rintro e w' ⟨rfl, rfl⟩))
                refine (number_c s k _ hs hlt).mono ?_
                intro x w2 hp
                rw [HN.out] at hp
                obtain ⟨rfl, hb2⟩ := hp
                have HB2 : Hid (Below w.heap.size w w2) := HB.out.trans (hb2.mono HB.out.size)
                have HO2 := Lib.hid (HO.out.grow hb2)
                clear hb2
                go_wp2_with (first
                  | (at_builtin; refine wpList_append_own _ rfl (.tmp 57) (.tmp 61) 36 rfl w.heap.size 40 i0 _ 4 40 Tryd.underlying36 HI.out HZ0.out HZ1.out HZ2.out rfl (by decide) _ acc.length (toksCells acc) rfl (HO2.out.alloc _) ⟨w2.heap.size, 0, none⟩ 1 1 (tokCells ⟨2, piece s.data.toList k e, v, k⟩) rfl rfl ?c1 ?c2 ?c3 ?c4 ?c5 ?_))
                case c1 => exact World.news_of_block (cs := #[.int .i64 2, .string ⟨(piece s.data.toList k e).toArray⟩, .int .i64 v, .int .i64 k]) (t := 40) (fr := (0, 0)) (heap_alloc_new w2 _)
                case c2 => intro u hu; simp [tokCells] at hu; rcases hu with rfl | rfl | rfl | rfl <;> rfl
                case c3 => unfold maxLen; omega
                case c4 => omega
                case c5 => have := HB2.out.size; simp; omega
                intro v' w1 hown' hg _
                have HO' : Hid (OwnToks w1 w.heap.size v' (acc ++ [⟨2, (piece s.data.toList k e), v, k⟩])) := by
                  show w1.ownsRow _ _ _ _ _ _
                  rw [List.length_append, toksCells_snoc]
                  exact hown'
                have HB' : Hid (Below w.heap.size w w1) := (HB2.out.alloc HB2.out.size _).grown hg (by have := HB2.out.size; simp; omega) (fun k hk => (HO2.out.lt k hk).1)
                clear hown' hg
                obtain ⟨g, cap, rfl, hcell⟩ := HO'.out.last
                go_wp2_with fail
                go_roundw
                case rel => exact ⟨e, f, _, by omega, by omega, int_eq (by first | (rw [HPL.out]; omega) | (simp; done)), by rw [← HL.out, HLE.out], by simp; omega, HO'.out, HB'.out⟩
                case measure => have hplx := HPL.out; simp [intOf]; omega
          · have hE := runEnd_gt HC.out (let_in hl)
            have hE2 : runEnd inNm s.data.toList k ≤ s.size := by have := runEnd_le inNm s.data.toList k (by rw [len_data]; omega); rw [len_data] at this; exact this
            have HLE := Lib.hid (lexM_name (f := f) (acc := acc) HC.out hl)
            have HPL := Lib.hid (piece_len (l := s.data.toList) (a := k) (b := runEnd inNm s.data.toList k) (by rw [len_data]; exact hE2))
            have hpl : (piece s.data.toList k (runEnd inNm s.data.toList k)).length ≤ 65536 := by rw [HPL.out]; omega
            have hT : s.extract k (runEnd inNm s.data.toList k) = ⟨(piece s.data.toList k (runEnd inNm s.data.toList k)).toArray⟩ := piece_str _ _ _
            by_cases h16 : k + 16 < runEnd inNm s.data.toList k
            · rw [if_pos h16] at HLE
              go_wp2_with (first
                | (go_at_call 47; refine (isLetter_c _ _).mono ?_; rintro e w' ⟨rfl, rfl⟩)
                | (go_at_call 50; refine (isDigit_c _ _).mono ?_; rintro e w' ⟨rfl, rfl⟩)
                | (go_at_call 48; refine (while_in _ _ _ hs hk).mono ?_; rintro e w' ⟨rfl, rfl⟩))
              refine (fail_c _ _ _).mono ?_
              rintro x w' ⟨rfl, rfl⟩
              go_wp2_with fail
              refine ⟨rfl, ?_⟩
              rw [← HL.out, HLE.out]
              exact ⟨rfl, HB.out⟩
            · rw [if_neg h16] at HLE
              go_wp2_with (first
                | (go_at_call 47; refine (isLetter_c _ _).mono ?_; rintro e w' ⟨rfl, rfl⟩)
                | (go_at_call 50; refine (isDigit_c _ _).mono ?_; rintro e w' ⟨rfl, rfl⟩)
                | (go_at_call 48; refine (while_in _ _ _ hs hk).mono ?_; rintro e w' ⟨rfl, rfl⟩)
                | (at_builtin; refine wpList_append_own _ rfl (.tmp 45) (.tmp 52) 36 rfl w.heap.size 40 i0 _ 4 40 Tryd.underlying36 HI.out HZ0.out HZ1.out HZ2.out rfl (by decide) _ acc.length (toksCells acc) rfl (HO.out.alloc _) ⟨wr.heap.size, 0, none⟩ 1 1 (tokCells ⟨1, piece s.data.toList k (runEnd inNm s.data.toList k), 0, k⟩) rfl rfl ?c1 ?c2 ?c3 ?c4 ?c5 ?_))
              case c1 => exact World.news_of_block (cs := #[.int .i64 1, .string ⟨(piece s.data.toList k (runEnd inNm s.data.toList k)).toArray⟩, .int .i64 0, .int .i64 k]) (t := 40) (fr := (0, 0)) (heap_alloc_new wr _)
              case c2 => intro u hu; simp [tokCells] at hu; rcases hu with rfl | rfl | rfl | rfl <;> rfl
              case c3 => unfold maxLen; omega
              case c4 => omega
              case c5 => have := HB.out.size; simp; omega
              intro v' w1 hown' hg _
              have HO' : Hid (OwnToks w1 w.heap.size v' (acc ++ [⟨1, (piece s.data.toList k (runEnd inNm s.data.toList k)), 0, k⟩])) := by
                show w1.ownsRow _ _ _ _ _ _
                rw [List.length_append, toksCells_snoc]
                exact hown'
              have HB' : Hid (Below w.heap.size w w1) := (HB.out.alloc HB.out.size _).grown hg (by have := HB.out.size; simp; omega) (fun k hk => (HO.out.lt k hk).1)
              clear hown' hg
              obtain ⟨g, cap, rfl, hcell⟩ := HO'.out.last
              go_wp2_with fail
              go_roundw
              case rel => exact ⟨runEnd inNm s.data.toList k, f, _, by omega, by omega, int_eq (by first | (rw [HPL.out]; omega) | (simp; done)), by rw [← HL.out, HLE.out], by simp; omega, HO'.out, HB'.out⟩
              case measure => have hplx := HPL.out; simp [intOf]; omega
        · have hn1 : s[k].toNat = 32 ∨ s[k].toNat = 9 ∨ s[k].toNat = 10 := by simpa [isBl] using hbl
          have HLE := Lib.hid (lexM_bl (f := f) (acc := acc) HC.out hbl)
          clear hbl
          by_cases h32 : s[k].toNat = 32
          · have hq1 : (((s[k].toNat : Nat) : Int) == 32) = true := by simp; omega
            clear hn1 h32
            go_wp2_with fail
            go_roundw
            case rel => exact ⟨k + 1, f, acc, by omega, by omega, by go_num, by rw [← HL.out, HLE.out], by omega, HO.out, HB.out⟩
            case measure => simp [intOf]; omega
          · have hq1 : (((s[k].toNat : Nat) : Int) == 32) = false := by simp; omega
            by_cases h9 : s[k].toNat = 9
            · have hq2 : (((s[k].toNat : Nat) : Int) == 9) = true := by simp; omega
              clear hn1 h32 h9
              go_wp2_with fail
              go_roundw
              case rel => exact ⟨k + 1, f, acc, by omega, by omega, by go_num, by rw [← HL.out, HLE.out], by omega, HO.out, HB.out⟩
              case measure => simp [intOf]; omega
            · have hq2 : (((s[k].toNat : Nat) : Int) == 9) = false := by simp; omega
              have hq3 : (((s[k].toNat : Nat) : Int) == 10) = true := by simp; omega
              clear hn1 h32 h9
              go_wp2_with fail
              go_roundw
              case rel => exact ⟨k + 1, f, acc, by omega, by omega, by go_num, by rw [← HL.out, HLE.out], by omega, HO.out, HB.out⟩
              case measure => simp [intOf]; omega
      · have HLE := Lib.hid (lexM_end (f := f) (acc := acc) (l := s.data.toList) (k := k) (by rw [len_data]; omega))
        go_wp2_with fail
        go_ret
        rw [← HL.out, HLE.out]
        exact ⟨_, rfl, HO.out, HB.out⟩
#print axioms scan_c
end Go.Proofs.YtbjagceopgofiaaDoor
