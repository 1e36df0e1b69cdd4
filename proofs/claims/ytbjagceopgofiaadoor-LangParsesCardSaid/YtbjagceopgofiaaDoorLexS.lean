/-
  The reference's Tokens.
-/
import Derived.Test.YtbjagceopgofiaaDoorLexR
namespace Go.Proofs.YtbjagceopgofiaaDoor
open Go.RowKit

theorem runEnd_drop (p : UInt8 → Bool) (l : List UInt8) (k : Nat) : runEnd p (l.drop k) 0 = runEnd p l k - k := by
  unfold runEnd
  simp
theorem piece_drop (l : List UInt8) (k e : Nat) : piece (l.drop k) 0 (e - k) = piece l k e := by
  unfold piece
  simp
theorem numBad_drop (l : List UInt8) (k e : Nat) (h : k ≤ e) : numBad (l.drop k) 0 (e - k) = numBad l k e := by
  unfold numBad
  rw [List.getElem?_drop, List.getElem?_drop, show k + (e - k) = e by omega, Nat.add_zero]
  congr 2
  rw [decide_eq_decide]
  omega
theorem numM_drop_ok {l : List UInt8} {k e v : Nat} (h : numM l k = .ok (e, v)) : numM (l.drop k) 0 = .ok (e - k, v) := by
  obtain ⟨he, hb, hv⟩ := numM_ok h
  have hge := runEnd_ge isDig l k
  unfold numM
  rw [runEnd_drop, numBad_drop _ _ _ hge, hb, if_neg (by simp)]
  have : (List.drop 0 (List.drop k l)).take (runEnd isDig l k - k - 0) = piece l k (runEnd isDig l k) := piece_drop l k _
  rw [this, hv, he]
theorem numM_drop_err {l : List UInt8} {k er : Nat} (h : numM l k = .error er) : numM (l.drop k) 0 = .error er := by
  have hge := runEnd_ge isDig l k
  have h2 : (List.drop 0 (List.drop k l)).take (runEnd isDig l k - k - 0) = piece l k (runEnd isDig l k) := piece_drop l k _
  unfold numM at h ⊢
  rw [runEnd_drop, numBad_drop _ _ _ hge, h2]
  split at h
  · rename_i hb
    rw [if_pos hb]; exact h
  · rename_i hb
    rw [if_neg hb]
    have h3 : List.take (runEnd isDig l k - k) (List.drop k l) = piece l k (runEnd isDig l k) := rfl
    rw [h3] at h
    cases hv : valM (piece l k (runEnd isDig l k)) 0 with
    | none => rw [hv] at h; exact h
    | some v => rw [hv] at h; cases h

def CutName (w : World) (k n : Nat) (t : Value) (wr : World) : Prop := (∃ m : Nat, t = .int .i64 m ∧ k + m = n) ∧ w = wr
def RelName (s : ByteArray) (k : Nat) (t : Value) : Prop :=
  ∃ n : Nat, 1 ≤ n ∧ k + n ≤ s.size ∧ t = .int .i64 n ∧ runEnd inNm s.data.toList (k + n) = runEnd inNm s.data.toList k
def toksPost (w : World) (R : Except (Nat × Nat) (List Tok)) (x : Ending) (w' : World) : Prop :=
  match R with
  | .ok ts => ∃ v, x = .returned (.tuple #[v, .int .i64 0, .int .i64 0]) ∧ OwnToks w' w.heap.size v ts ∧ Below w.heap.size w w'
  | .error (er, p) => x = .returned (.tuple #[.slice none 0 0, .int .i64 er, .int .i64 p]) ∧ Below w.heap.size w w'

set_option maxHeartbeats 8000000 in
set_option maxRecDepth 100000 in
theorem rtokens_c (s : ByteArray) (w : World) : Calls Tryd.prog 21 #[.string s] w (toksPost w (tokensM s.data.toList)) := by
  by_cases hbig : 65536 < s.size
  · have HR : Hid (tokensM s.data.toList = .error (8, 0)) := by
      show _ = _
      unfold tokensM
      rw [len_data, if_pos hbig]
    go_enter Tryd.func21, Tryd.ntmps21
    go_wp2_with fail
    go_ret3
    rw [HR.out]
    exact ⟨rfl, Below.refl _ _⟩
  · have HR : Hid (tokensM s.data.toList = lexM (s.size + 1) s.data.toList 0 []) := by
      show _ = _
      unfold tokensM
      rw [len_data, if_neg hbig]
    have hs : s.size ≤ 65536 := by omega
    obtain ⟨i0, hi, hz0, hz1, hz2⟩ := info_parts tokInfo
    have HI := Lib.hid hi
    have HZ0 := Lib.hid hz0
    have HZ1 := Lib.hid hz1
    have HZ2 := Lib.hid hz2
    clear hi hz0 hz1 hz2
    go_enter Tryd.func21, Tryd.ntmps21
    go_wp2_with fail
    go_loopw [5, 6] (fun v i wr => RelScan w s (tokensM s.data.toList) v i wr) (fun _ i _ => s.size - (intOf i).toNat)
    case atStart => exact ⟨0, s.size + 1, [], by omega, by omega, rfl, HR.out.symm, by simp, World.ownsRow_nil _ _ _ _, Below.refl _ _⟩
    case round =>
      obtain ⟨k, f, acc, hk, hf, rfl, hlex, hacc, hown, hb⟩ := hrel
      have HL := Lib.hid hlex
      have HO := Lib.hid hown
      have HB := Lib.hid hb
      clear hlex hown hb HR
      by_cases hlt : k < s.size
      · obtain ⟨f, rfl⟩ : ∃ f', f = f' + 1 := ⟨f - 1, by omega⟩
        have HC := Lib.hid (byte_at s k hlt)
        cases hbl : isBl s[k]
        · have HBL := Lib.hid hbl
          cases hsg : isSg s[k]
          · cases hd : isDig s[k]
            · cases hl : isLet s[k]
              · have HLE := Lib.hid (lexM_bad (f := f) (acc := acc) HC.out HBL.out hl hd hsg)
                go_wp2_with (first
                | (go_at_call 42; refine (rblank_c _ _).mono ?_; rintro e w' ⟨rfl, rfl⟩)
                | (go_at_call 43; refine (rsign_c _ _).mono ?_; rintro e w' ⟨rfl, rfl⟩)
                | (go_at_call 44; refine (rdigit_c _ _).mono ?_; rintro e w' ⟨rfl, rfl⟩)
                | (go_at_call 46; refine (rletter_c _ _).mono ?_; rintro e w' ⟨rfl, rfl⟩))
                go_ret3
                rw [← HL.out, HLE.out]
                exact ⟨rfl, HB.out⟩
              · have hE := runEnd_gt HC.out (let_in hl)
                have hE2 : runEnd inNm s.data.toList k ≤ s.size := by have := runEnd_le inNm s.data.toList k (by rw [len_data]; omega); rw [len_data] at this; exact this
                have HLE := Lib.hid (lexM_name (f := f) (acc := acc) HC.out hl)
                have HPL := Lib.hid (piece_len (l := s.data.toList) (a := k) (b := runEnd inNm s.data.toList k) (by rw [len_data]; exact hE2))
                have HST := Lib.hid (runEnd_step HC.out (let_in hl))
                go_upto_block 3 with (first
                | (go_at_call 42; refine (rblank_c _ _).mono ?_; rintro e w' ⟨rfl, rfl⟩)
                | (go_at_call 43; refine (rsign_c _ _).mono ?_; rintro e w' ⟨rfl, rfl⟩)
                | (go_at_call 44; refine (rdigit_c _ _).mono ?_; rintro e w' ⟨rfl, rfl⟩)
                | (go_at_call 46; refine (rletter_c _ _).mono ?_; rintro e w' ⟨rfl, rfl⟩))
                go_cut [10] (fun t wx => CutName wr k (runEnd inNm s.data.toList k) t wx)
                case first =>
                  go_wp2_with fail
                  go_loop [10] (fun t => RelName s k t) (fun t => s.size - (intOf t).toNat)
                  case atStart => exact ⟨1, by omega, by omega, rfl, HST.out.symm⟩
                  case round =>
                    obtain ⟨n, hn1, hn2, rfl, hr⟩ := hrel
                    have HR := Lib.hid hr
                    clear hr hbl hsg hd hl HLE
                    by_cases hlt2 : k + n < s.size
                    · have HB2 := Lib.hid (byte_at s (k + n) hlt2)
                      have HI0 : Hid (inNm s[k + n] = (isLet s[k + n] || isDig s[k + n] || decide (s[k + n].toNat = 95))) := rfl
                      cases hl2 : isLet s[k + n]
                      · cases hd2 : isDig s[k + n]
                        · by_cases h95 : s[k + n].toNat = 95
                          · have hq : (((s[k + n].toNat : Nat) : Int) == 95) = true := by simp; omega
                            have HIN : Hid (inNm s[k + n] = true) := by show _ = _; rw [HI0.out]; simp [h95]
                            clear h95
                            go_wp2_with (first
                        | (go_at_call 44; refine (rdigit_c _ _).mono ?_; rintro e w' ⟨rfl, rfl⟩)
                        | (go_at_call 46; refine (rletter_c _ _).mono ?_; rintro e w' ⟨rfl, rfl⟩))
                            go_round
                            case rel => exact ⟨n + 1, by omega, by omega, by go_num, by rw [← HR.out, ← Nat.add_assoc, ← runEnd_step HB2.out HIN.out]⟩
                            case measure => simp [intOf]; omega
                          · have hq : (((s[k + n].toNat : Nat) : Int) == 95) = false := by simp; omega
                            have HIN : Hid (inNm s[k + n] = false) := by show _ = _; rw [HI0.out, hl2, hd2]; simp [h95]
                            clear h95
                            go_wp2_with (first
                        | (go_at_call 44; refine (rdigit_c _ _).mono ?_; rintro e w' ⟨rfl, rfl⟩)
                        | (go_at_call 46; refine (rletter_c _ _).mono ?_; rintro e w' ⟨rfl, rfl⟩))
                            go_meet
                            exact ⟨⟨n, rfl, by rw [← HR.out, runEnd_stop HB2.out HIN.out]⟩, rfl⟩
                        · have HIN : Hid (inNm s[k + n] = true) := by show _ = _; rw [HI0.out, hd2]; simp
                          go_wp2_with (first
                        | (go_at_call 44; refine (rdigit_c _ _).mono ?_; rintro e w' ⟨rfl, rfl⟩)
                        | (go_at_call 46; refine (rletter_c _ _).mono ?_; rintro e w' ⟨rfl, rfl⟩))
                          go_round
                          case rel => exact ⟨n + 1, by omega, by omega, by go_num, by rw [← HR.out, ← Nat.add_assoc, ← runEnd_step HB2.out HIN.out]⟩
                          case measure => simp [intOf]; omega
                      · have HIN : Hid (inNm s[k + n] = true) := by show _ = _; rw [HI0.out, hl2]; simp
                        go_wp2_with (first
                        | (go_at_call 44; refine (rdigit_c _ _).mono ?_; rintro e w' ⟨rfl, rfl⟩)
                        | (go_at_call 46; refine (rletter_c _ _).mono ?_; rintro e w' ⟨rfl, rfl⟩))
                        go_round
                        case rel => exact ⟨n + 1, by omega, by omega, by go_num, by rw [← HR.out, ← Nat.add_assoc, ← runEnd_step HB2.out HIN.out]⟩
                        case measure => simp [intOf]; omega
                    · go_wp2_with fail
                      go_meet
                      exact ⟨⟨n, rfl, by rw [← HR.out, runEnd_end (by rw [len_data]; omega)]⟩, rfl⟩
                case rest =>
                  obtain ⟨⟨m, rfl, hm⟩, rfl⟩ := hcut
                  have HM := Lib.hid hm
                  have hm1 : k + m ≤ s.size := by omega
                  have hm2 : 1 ≤ m := by omega
                  have hT : s.extract k (k + m) = ⟨(piece s.data.toList k (k + m)).toArray⟩ := piece_str _ _ _
                  rw [← hm] at HLE
                  clear hm hE hE2 HPL HST
                  by_cases h16 : 16 < m
                  · rw [if_pos (by omega)] at HLE
                    go_wp2_with fail
                    go_ret3
                    rw [← HL.out, HLE.out]
                    exact ⟨rfl, HB.out⟩
                  · rw [if_neg (by omega)] at HLE
                    go_wp2_with (first
                      | (at_builtin; refine wpList_append_own _ rfl (.tmp 115) (.tmp 124) 36 rfl w.heap.size 40 i0 _ 4 40 Tryd.underlying36 HI.out HZ0.out HZ1.out HZ2.out rfl (by decide) _ acc.length (toksCells acc) rfl (HO.out.alloc _) ⟨wr.heap.size, 0, none⟩ 1 1 (tokCells ⟨1, piece s.data.toList k (k + m), 0, k⟩) rfl rfl ?c1 ?c2 ?c3 ?c4 ?c5 ?_))
                    case c1 => exact World.news_of_block (cs := #[.int .i64 1, .string ⟨(piece s.data.toList k (k + m)).toArray⟩, .int .i64 0, .int .i64 k]) (t := 40) (fr := (0, 0)) (heap_alloc_new wr _)
                    case c2 => intro u hu; simp [tokCells] at hu; rcases hu with rfl | rfl | rfl | rfl <;> rfl
                    case c3 => unfold maxLen; omega
                    case c4 => omega
                    case c5 => have := HB.out.size; simp; omega
                    intro v' w1 hown' hg _
                    have HO' : Hid (OwnToks w1 w.heap.size v' (acc ++ [⟨1, (piece s.data.toList k (k + m)), 0, k⟩])) := by
                      show w1.ownsRow _ _ _ _ _ _
                      rw [List.length_append, toksCells_snoc]
                      exact hown'
                    have HB' : Hid (Below w.heap.size w w1) := (HB.out.alloc HB.out.size _).grown hg (by have := HB.out.size; simp; omega) (fun k hk => (HO.out.lt k hk).1)
                    clear hown' hg
                    go_wp2_with fail
                    go_roundw
                    case rel => exact ⟨k + m, f, _, by omega, by omega, int_eq (by simp; done), by rw [← HL.out, HLE.out], by simp; omega, HO'.out, HB'.out⟩
                    case measure => simp [intOf]; omega
            · have HE := Lib.hid (runEnd_gt HC.out hd)
              have HE2 := Lib.hid (runEnd_le isDig s.data.toList k (by rw [len_data]; omega))
              have HTD : Hid ((s.extract k s.size).data.toList = s.data.toList.drop k) := by
                show _ = _
                rw [piece_data]
                unfold piece
                rw [List.take_of_length_le (by rw [List.length_drop, len_data]; omega)]
              have HTS : Hid ((s.extract k s.size).size = s.size - k) := by
                show _ = _
                rw [← len_data, HTD.out, List.length_drop, len_data]
              have hts1 : (s.extract k s.size).size ≤ 65536 := by rw [HTS.out]; omega
              have hts2 : 0 < (s.extract k s.size).size := by rw [HTS.out]; omega
              cases hn : numM s.data.toList k with
              | error er =>
                have HLE := Lib.hid (lexM_num_err (f := f) (acc := acc) HC.out hd hn)
                have HN := Lib.hid (numM_drop_err hn)
                have her : er = 14 ∨ er = 8 := by
                  unfold numM at hn
                  split at hn
                  · left; injection hn with h; exact h.symm
                  · split at hn
                    · right; injection hn with h; exact h.symm
                    · cases hn
                have hne : (((er : Nat) : Int) != 0) = true := by simp; omega
                clear hn her
                go_wp2_with (first
                  | (go_at_call 42; refine (rblank_c _ _).mono ?_; rintro e w' ⟨rfl, rfl⟩)
                  | (go_at_call 43; refine (rsign_c _ _).mono ?_; rintro e w' ⟨rfl, rfl⟩)
                  | (go_at_call 44; refine (rdigit_c _ _).mono ?_; rintro e w' ⟨rfl, rfl⟩)
                  | (go_at_call 46; refine (rletter_c _ _).mono ?_; rintro e w' ⟨rfl, rfl⟩))
                refine (rnumber_c _ _ hts1 hts2).mono ?_
                intro x w2 hp
                rw [HTD.out, HN.out] at hp
                obtain ⟨n, rfl, rfl⟩ := hp
                go_wp2_with fail
                go_ret3
                rw [← HL.out, HLE.out]
                exact ⟨rfl, HB.out⟩
              | ok ev =>
                obtain ⟨e, v⟩ := ev
                have HLE := Lib.hid (lexM_num_ok (f := f) (acc := acc) HC.out hd hn)
                have HN := Lib.hid (numM_drop_ok hn)
                obtain ⟨he, _, _⟩ := numM_ok hn
                have hE : k < e := by rw [he]; exact HE.out
                have hE2 : e ≤ s.size := by have := HE2.out; rw [len_data] at this; rw [he]; exact this
                clear hn he
                obtain ⟨m, rfl⟩ : ∃ m, e = k + m := ⟨e - k, by omega⟩
                rw [Nat.add_sub_cancel_left] at HN
                have hT : s.extract k (k + m) = ⟨(piece s.data.toList k (k + m)).toArray⟩ := piece_str _ _ _
                go_wp2_with (first
                  | (go_at_call 42; refine (rblank_c _ _).mono ?_; rintro e w' ⟨rfl, rfl⟩)
                  | (go_at_call 43; refine (rsign_c _ _).mono ?_; rintro e w' ⟨rfl, rfl⟩)
                  | (go_at_call 44; refine (rdigit_c _ _).mono ?_; rintro e w' ⟨rfl, rfl⟩)
                  | (go_at_call 46; refine (rletter_c _ _).mono ?_; rintro e w' ⟨rfl, rfl⟩))
                refine (rnumber_c _ _ hts1 hts2).mono ?_
                intro x w2 hp
                rw [HTD.out, HN.out] at hp
                obtain ⟨rfl, rfl⟩ := hp
                go_wp2_with (first
                  | (at_builtin; refine wpList_append_own _ rfl (.tmp 60) (.tmp 70) 36 rfl w.heap.size 40 i0 _ 4 40 Tryd.underlying36 HI.out HZ0.out HZ1.out HZ2.out rfl (by decide) _ acc.length (toksCells acc) rfl (HO.out.alloc _) ⟨wr.heap.size, 0, none⟩ 1 1 (tokCells ⟨2, piece s.data.toList k (k + m), v, k⟩) rfl rfl ?c1 ?c2 ?c3 ?c4 ?c5 ?_))
                case c1 => exact World.news_of_block (cs := #[.int .i64 2, .string ⟨(piece s.data.toList k (k + m)).toArray⟩, .int .i64 v, .int .i64 k]) (t := 40) (fr := (0, 0)) (heap_alloc_new wr _)
                case c2 => intro u hu; simp [tokCells] at hu; rcases hu with rfl | rfl | rfl | rfl <;> rfl
                case c3 => unfold maxLen; omega
                case c4 => omega
                case c5 => have := HB.out.size; simp; omega
                intro v' w1 hown' hg _
                have HO' : Hid (OwnToks w1 w.heap.size v' (acc ++ [⟨2, (piece s.data.toList k (k + m)), v, k⟩])) := by
                  show w1.ownsRow _ _ _ _ _ _
                  rw [List.length_append, toksCells_snoc]
                  exact hown'
                have HB' : Hid (Below w.heap.size w w1) := (HB.out.alloc HB.out.size _).grown hg (by have := HB.out.size; simp; omega) (fun k hk => (HO.out.lt k hk).1)
                clear hown' hg
                go_wp2_with fail
                go_roundw
                case rel => exact ⟨k + m, f, _, by omega, by omega, int_eq (by simp; done), by rw [← HL.out, HLE.out], by simp; omega, HO'.out, HB'.out⟩
                case measure => simp [intOf]; omega
          · have HLE := Lib.hid (lexM_sign (f := f) (acc := acc) HC.out hsg)
            have hT : s.extract k (k + 1) = ⟨[s[k]].toArray⟩ := by rw [piece_str, piece_one HC.out]
            go_wp2_with (first
                | (go_at_call 42; refine (rblank_c _ _).mono ?_; rintro e w' ⟨rfl, rfl⟩)
                | (go_at_call 43; refine (rsign_c _ _).mono ?_; rintro e w' ⟨rfl, rfl⟩)
                | (go_at_call 44; refine (rdigit_c _ _).mono ?_; rintro e w' ⟨rfl, rfl⟩)
                | (go_at_call 46; refine (rletter_c _ _).mono ?_; rintro e w' ⟨rfl, rfl⟩)
                | (at_builtin; refine wpList_append_own _ rfl (.tmp 31) (.tmp 39) 36 rfl w.heap.size 40 i0 _ 4 40 Tryd.underlying36 HI.out HZ0.out HZ1.out HZ2.out rfl (by decide) _ acc.length (toksCells acc) rfl (HO.out.alloc _) ⟨wr.heap.size, 0, none⟩ 1 1 (tokCells ⟨3, [s[k]], 0, k⟩) rfl rfl ?c1 ?c2 ?c3 ?c4 ?c5 ?_))
            case c1 => exact World.news_of_block (cs := #[.int .i64 3, .string ⟨[s[k]].toArray⟩, .int .i64 0, .int .i64 k]) (t := 40) (fr := (0, 0)) (heap_alloc_new wr _)
            case c2 => intro u hu; simp [tokCells] at hu; rcases hu with rfl | rfl | rfl | rfl <;> rfl
            case c3 => unfold maxLen; omega
            case c4 => omega
            case c5 => have := HB.out.size; simp; omega
            intro v' w1 hown' hg _
            have HO' : Hid (OwnToks w1 w.heap.size v' (acc ++ [⟨3, [s[k]], 0, k⟩])) := by
              show w1.ownsRow _ _ _ _ _ _
              rw [List.length_append, toksCells_snoc]
              exact hown'
            have HB' : Hid (Below w.heap.size w w1) := (HB.out.alloc HB.out.size _).grown hg (by have := HB.out.size; simp; omega) (fun k hk => (HO.out.lt k hk).1)
            clear hown' hg
            go_wp2_with fail
            go_roundw
            case rel => exact ⟨k + 1, f, _, by omega, by omega, int_eq (by simp; done), by rw [← HL.out, HLE.out], by simp; omega, HO'.out, HB'.out⟩
            case measure => simp [intOf]; omega
        · have HLE := Lib.hid (lexM_bl (f := f) (acc := acc) HC.out hbl)
          go_wp2_with (first
                | (go_at_call 42; refine (rblank_c _ _).mono ?_; rintro e w' ⟨rfl, rfl⟩)
                | (go_at_call 43; refine (rsign_c _ _).mono ?_; rintro e w' ⟨rfl, rfl⟩)
                | (go_at_call 44; refine (rdigit_c _ _).mono ?_; rintro e w' ⟨rfl, rfl⟩)
                | (go_at_call 46; refine (rletter_c _ _).mono ?_; rintro e w' ⟨rfl, rfl⟩))
          go_roundw
          case rel => exact ⟨k + 1, f, acc, by omega, by omega, by go_num, by rw [← HL.out, HLE.out], by omega, HO.out, HB.out⟩
          case measure => simp [intOf]; omega
      · have HLE := Lib.hid (lexM_end (f := f) (acc := acc) (l := s.data.toList) (k := k) (by rw [len_data]; omega))
        go_wp2_with fail
        go_ret3
        rw [← HL.out, HLE.out]
        exact ⟨_, rfl, HO.out, HB.out⟩
#print axioms rtokens_c
end Go.Proofs.YtbjagceopgofiaaDoor
