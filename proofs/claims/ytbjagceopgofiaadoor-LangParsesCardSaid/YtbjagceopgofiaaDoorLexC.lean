/-
  lang.number: the token of a number, or the parser's panic.
-/
import Derived.Test.YtbjagceopgofiaaDoorLexB
import Derived.Deep.DeepCutAuto
import Derived.Laws.RangeString
import Derived.Laws.RangeAny
import Derived.Lib.Strings
namespace Go.Proofs.YtbjagceopgofiaaDoor
open Go.RowKit

theorem len_data (s : ByteArray) : s.data.toList.length = s.size := Array.length_toList
theorem piece_str (s : ByteArray) (a b : Nat) : s.extract a b = ⟨(piece s.data.toList a b).toArray⟩ := Lib.extract_eq s a b
theorem piece_data (s : ByteArray) (a b : Nat) : (s.extract a b).data.toList = piece s.data.toList a b := Lib.extract_data s a b
theorem numBad_lt (s : ByteArray) (i e : Nat) (hi : i < s.size) (he : e < s.size) : numBad s.data.toList i e = ((isLet s[e] || decide (s[e].toNat = 95)) || (decide (i + 1 < e) && decide (s[i].toNat = 48))) := by
  unfold numBad
  rw [byte_at s e he, byte_at s i hi]
theorem numBad_ge (s : ByteArray) (i e : Nat) (hi : i < s.size) (he : s.size ≤ e) : numBad s.data.toList i e = (decide (i + 1 < e) && decide (s[i].toNat = 48)) := by
  unfold numBad
  rw [byte_at s i hi, List.getElem?_eq_none (by rw [len_data]; exact he)]
  simp

def CutBad (W1 : World) (b : Bool) (t : Value) (wr : World) : Prop := t = .bool b ∧ W1 = wr
def RelNum (W1 : World) (T : ByteArray) (R : Option Nat) (t : Value) (wr : World) : Prop :=
  ∃ k v : Nat, k ≤ T.size ∧ t = .int .i64 v ∧ v ≤ 9999999 ∧ valM (T.data.toList.drop k) v = R ∧ wr = W1.iter T k

theorem tokSize : (Tryd.prog.info? 40).map (·.size) = some 4 := by kernel_rfl
def numPost (w : World) (s : ByteArray) (i : Nat) (r : Except Nat (Nat × Nat)) (x : Ending) (w' : World) : Prop :=
  match r with
  | .ok (e, v) => x = .returned (.agg #[.int .i64 2, .string ⟨(piece s.data.toList i e).toArray⟩, .int .i64 v, .int .i64 i]) ∧ Below w.heap.size w w'
  | .error er => x = .panicked [{ v := faultV er i, recovered := false }] ∧ Below w.heap.size w w'

set_option maxHeartbeats 4000000 in
set_option maxRecDepth 100000 in
theorem number_c (s : ByteArray) (i : Nat) (w : World) (hs : s.size ≤ 65536) (hi : i < s.size) :
    Calls Tryd.prog 51 #[.string s, .int .i64 i] w (numPost w s i (numM s.data.toList i)) := by
  have h1 := runEnd_ge isDig s.data.toList i
  have h2 := runEnd_le isDig s.data.toList i (by rw [len_data]; omega)
  have hdig := Lib.hid (runEnd_all isDig s.data.toList i)
  have hnum : Hid (numM s.data.toList i = if numBad s.data.toList i (runEnd isDig s.data.toList i) then .error 14 else match valM (piece s.data.toList i (runEnd isDig s.data.toList i)) 0 with | none => .error 8 | some v => .ok (runEnd isDig s.data.toList i, v)) := rfl
  rw [len_data] at h2
  go_enter Tryd.func51, Tryd.ntmps51
  go_upto_region 2 with (go_at_call 48; refine (while_dig _ _ _ hs (by omega)).mono ?_; rintro e w' ⟨rfl, rfl⟩)
  generalize runEnd isDig s.data.toList i = e at *
  generalize hW1 : w.alloc (Obj.cells #[Value.int IntKind.i64 0, Value.string { data := #[] }, Value.int IntKind.i64 0, Value.int IntKind.i64 0] 40) = W1
  have hb1 : Hid (Below w.heap.size w W1) := by rw [← hW1]; exact (Below.refl _ _).alloc (Nat.le_refl _) _
  have hg1 : Hid (W1.heap[w.heap.size]? = some (.cells #[Value.int IntKind.i64 0, Value.string { data := #[] }, Value.int IntKind.i64 0, Value.int IntKind.i64 0] 40 (0, 0))) := by rw [← hW1]; exact heap_alloc_new w _
  have hz1 : w.heap.size < W1.heap.size := by rw [← hW1]; simp
  clear hW1
  go_cut [39] (fun t wx => CutBad W1 (numBad s.data.toList i e) t wx)
  case first =>
    by_cases hlt : e < s.size
    · have HN := Lib.hid (numBad_lt s i e hi hlt)
      cases hl : isLet s[e]
      · by_cases h95 : s[e].toNat = 95
        · have hq : (((s[e].toNat : Nat) : Int) == 95) = true := by simp [h95]
          have H95 := Lib.hid h95
          clear h95
          go_wp2_with (go_at_call 47; refine (isLetter_c _ _).mono ?_; rintro e w' ⟨rfl, rfl⟩)
          go_meet
          exact ⟨congrArg Value.bool (by rw [HN.out]; simp [H95.out]), rfl⟩
        · have hq : (((s[e].toNat : Nat) : Int) == 95) = false := by simp; omega
          have H95 := Lib.hid h95
          clear h95
          by_cases hi1 : i + 1 < e
          · go_wp2_with (go_at_call 47; refine (isLetter_c _ _).mono ?_; rintro e w' ⟨rfl, rfl⟩)
            go_meet
            exact ⟨congrArg Value.bool (by rw [HN.out, hl, decide_eq_false H95.out]; rw [Bool.eq_iff_iff]; simp [hi1]; omega), rfl⟩
          · go_wp2_with (go_at_call 47; refine (isLetter_c _ _).mono ?_; rintro e w' ⟨rfl, rfl⟩)
            go_meet
            exact ⟨congrArg Value.bool (by rw [HN.out, hl, decide_eq_false H95.out]; simp; omega), rfl⟩
      · go_wp2_with (go_at_call 47; refine (isLetter_c _ _).mono ?_; rintro e w' ⟨rfl, rfl⟩)
        go_meet
        exact ⟨congrArg Value.bool (by rw [HN.out, hl]; simp), rfl⟩
    · have HN := Lib.hid (numBad_ge s i e hi (by omega))
      by_cases hi1 : i + 1 < e
      · go_wp2_with fail
        go_meet
        exact ⟨congrArg Value.bool (by rw [HN.out]; rw [Bool.eq_iff_iff]; simp [hi1]; omega), rfl⟩
      · go_wp2_with fail
        go_meet
        exact ⟨congrArg Value.bool (by rw [HN.out]; simp; omega), rfl⟩
  case rest =>
    obtain ⟨rfl, rfl⟩ := hcut
    cases hbad : numBad s.data.toList i e
    · go_wp2_with fail
      have HT := Lib.hid (piece_data s i e)
      have HT2 := Lib.hid (piece_str s i e)
      have HN : Hid (numM s.data.toList i = match valM (piece s.data.toList i e) 0 with | none => .error 8 | some v => .ok (e, v)) := by
        show _ = _
        rw [hnum.out, hbad]; rfl
      clear hnum hbad
      generalize hT : s.extract i e = T at *
      go_loopw [6] (fun t wr => RelNum W1 T (valM (piece s.data.toList i e) 0) t wr) (fun _ wr => T.size - wr.iterPos W1.heap.size)
      case atStart => exact ⟨0, 0, by omega, rfl, by omega, by rw [HT.out]; rfl, rfl⟩
      case round =>
        obtain ⟨k, v, hk, rfl, hv, hR, rfl⟩ := hrel
        have HR := Lib.hid hR
        clear hR
        by_cases hlt : k < T.size
        · have hd : isDig T[k] = true := hdig.out _ (by rw [← HT.out]; exact List.mem_of_getElem? (byte_at T k hlt))
          have hd2 : 48 ≤ T[k].toNat ∧ T[k].toNat ≤ 57 := by simpa [isDig] using hd
          obtain ⟨hd3, hd4⟩ := hd2
          have HV : Hid (valM (T.data.toList.drop k) v = if 9999999 < v * 10 + (T[k].toNat - 48) then none else valM (T.data.toList.drop (k + 1)) (v * 10 + (T[k].toNat - 48))) := by
            show _ = _
            have hkl : k < T.data.toList.length := by rw [len_data]; exact hlt
            rw [List.drop_eq_getElem_cons hkl]
            rfl
          have hnx := fun ty => run_next_ascii (P := Tryd.prog) W1 T k ty hlt (by omega)
          clear hd
          by_cases hbig : 9999999 < v * 10 + (T[k].toNat - 48)
          · go_wp2_with fail
            refine (fail_c _ _ _).mono ?_
            rintro x w' ⟨rfl, rfl⟩
            go_wp2_with fail
            refine ⟨rfl, ?_⟩
            rw [HV.out, if_pos hbig] at HR
            rw [HN.out, ← HR.out]
            exact ⟨rfl, hb1.out.alloc hb1.out.size _⟩
          · go_wp2_with fail
            go_roundw
            case rel =>
              refine ⟨k + 1, v * 10 + (T[k].toNat - 48), by omega, by go_num, by omega, ?_, rfl⟩
              rw [← HR.out, HV.out, if_neg hbig]
            case measure => simp; omega
        · have hnx := fun ty => run_next_end (P := Tryd.prog) W1 T k ty hlt
          have HE : Hid (valM (T.data.toList.drop k) v = some v) := by
            show _ = _
            rw [List.drop_eq_nil_of_le (by rw [len_data]; omega)]
            rfl
          have hg2 : Hid ((W1.iter T k).heap[w.heap.size]? = some (.cells #[Value.int IntKind.i64 0, Value.string { data := #[] }, Value.int IntKind.i64 0, Value.int IntKind.i64 0] 40 (0, 0))) := (Below.heap_alloc W1 _ _ hz1).trans hg1.out
          go_wp2_with (refine wpList_store_row rfl 40 (.tmp 4) (.tmp 66) rfl w.heap.size #[.int .i64 2, .string T, .int .i64 v, .int .i64 i] rfl rfl 40 _ hg2.out tokSize rfl (by simp [Value.oneCell']) ?_)
          refine bodyPost_ret (results_cell_row (P := Tryd.prog) Tryd.results51 _ _ w.heap.size 40 #[.int .i64 2, .string T, .int .i64 v, .int .i64 i] (0, 0) _ rfl (setRow_heap _ _ _ _ _ _ hg2.out) Tryd.underlying40 rfl tokSize) rfl ?_
          rw [HE.out] at HR
          rw [HN.out, ← HR.out]
          exact ⟨by rw [HT2.out], below_setRow (hb1.out.alloc hb1.out.size _) (Nat.le_refl _) _⟩
    · go_wp2_with fail
      refine (fail_c _ _ _).mono ?_
      rintro x w' ⟨rfl, rfl⟩
      go_wp2_with fail
      refine ⟨rfl, ?_⟩
      rw [hnum.out, if_pos hbad]
      exact ⟨rfl, hb1.out⟩
#print axioms number_c
end Go.Proofs.YtbjagceopgofiaaDoor
