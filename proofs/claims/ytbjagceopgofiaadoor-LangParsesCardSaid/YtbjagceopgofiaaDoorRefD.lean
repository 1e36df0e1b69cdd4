/-
  The reference's Digits and Text.
-/
import Derived.Test.YtbjagceopgofiaaDoorCheck
import Derived.LoopN
namespace Go.Proofs.YtbjagceopgofiaaDoor
open Go.RowKit

theorem encode_digit (d : Nat) (h : d < 10) : Utf8.encode (48 + (d : Int)) = ⟨#[UInt8.ofNat (48 + d)]⟩ := by
  have hv : Utf8.valid (48 + (d : Int)) = true := by unfold Utf8.valid; simp; omega
  unfold Utf8.encode
  have ht : (48 + (d : Int)).toNat = 48 + d := by omega
  simp only [hv, if_true, ht]
  rw [if_pos (by omega)]
theorem encode_size (d : Int) : (Utf8.encode d).size ≤ 4 := by
  unfold Utf8.encode
  dsimp only
  generalize (if Utf8.valid d = true then d.toNat else Utf8.runeError) = c
  split
  · show 1 ≤ 4; omega
  · split
    · show 2 ≤ 4; omega
    · split
      · show 3 ≤ 4; omega
      · show 4 ≤ 4; omega
theorem enc_eq (x : Int) (d : Nat) (h : d < 10) (hx : x = 48 + (d : Int)) : Utf8.encode x = ⟨[UInt8.ofNat (48 + d)].toArray⟩ := by
  subst hx
  exact encode_digit d h
def RelDig (N : Nat) (v0 v3 : Value) (w w' : World) : Prop :=
  ∃ (m : Nat) (t : List UInt8), m ≤ N ∧ v0 = .int .i64 m ∧ v3 = .string ⟨t.toArray⟩ ∧ Lib.decDigits N = (if m < 10 then [] else Lib.decDigits (m / 10)) ++ t ∧ w' = w
theorem dec_step {m : Nat} (h : ¬ m < 10) : Lib.decDigits m = Lib.decDigits (m / 10) ++ [UInt8.ofNat (48 + m % 10)] := by rw [Lib.decDigits, dif_neg h]
theorem str_eq {a b : ByteArray} (h : a = b) : Value.string a = .string b := by rw [h]

set_option maxHeartbeats 2000000 in
theorem digits_c (n : Int) (w : World) (h0 : 0 ≤ n) (h1 : n ≤ 9999999) : Calls Tryd.prog 41 #[.int .i64 n] w fun e w' => e = .returned (.string ⟨(Lib.itoa n).toArray⟩) ∧ w' = w := by
  obtain ⟨N, rfl⟩ : ∃ N : Nat, n = N := ⟨n.toNat, by omega⟩
  have HL : Hid ((Lib.decDigits N).length ≤ 21) := by show _ ≤ _; rw [← Lib.itoa_nonneg]; exact Lib.itoa_length_le _ (by omega) (by omega)
  have HI := Lib.hid (Lib.itoa_nonneg N)
  go_enter Tryd.func41, Tryd.ntmps41
  go_wp2_with fail
  go_loopw [0, 3] (fun v0 v3 wr => RelDig N v0 v3 w wr) (fun v0 _ _ => (intOf v0).toNat)
  case atStart =>
    refine ⟨N, [UInt8.ofNat (48 + N % 10)], Nat.le_refl _, rfl, ?_, ?_, rfl⟩
    · exact str_eq (enc_eq _ _ (by omega) (by omega))
    · by_cases h : N < 10
      · rw [if_pos h, Lib.decDigits_one h, Nat.mod_eq_of_lt h]; rfl
      · rw [if_neg h]; exact dec_step h
  case round =>
    obtain ⟨m, t, hm, rfl, rfl, hd, rfl⟩ := hrel
    have hl := congrArg List.length hd
    rw [List.length_append] at hl
    have hl2 : t.length ≤ 21 := by have := HL.out; omega
    have HD := Lib.hid hd
    clear hd hl
    by_cases h10 : 10 ≤ m
    · have hmi : Hid (¬ m < 10) := by show ¬ _; omega
      have hmN : Hid (m ≤ N) := hm
      have hmz : m ≤ 9999999 := by omega
      clear HL HI hm h1 h0
      go_wp2_with fail
      · rename_i hbig
        exfalso
        have := encode_size (48 + (m : Int) / 10 % 10)
        omega
      · refine ⟨⟨m / 10, UInt8.ofNat (48 + m / 10 % 10) :: t, by have := hmN.out; omega, by simp, ?_, ?_, rfl⟩, by simp [intOf]; omega⟩
        · refine str_eq ?_
          rw [enc_eq _ (m / 10 % 10) (by omega) (by omega)]
          exact ba_append [UInt8.ofNat (48 + m / 10 % 10)] t
        · rw [HD.out, if_neg hmi.out]
          by_cases h : m / 10 < 10
          · rw [if_pos h, Lib.decDigits_one h, Nat.mod_eq_of_lt h]; rfl
          · rw [if_neg h, dec_step h, List.append_assoc]; rfl
    · go_wp2_with fail
      go_ret
      refine ⟨ret_str ?_, rfl⟩
      rw [HI.out, HD.out, if_pos (by omega)]
      rfl

theorem map_getElem {α β : Type} (f : α → β) (l : List α) (i : Nat) (h : i < l.length) : (l.map f)[i]? = some (f l[i]) := by
  rw [List.getElem?_map, List.getElem?_eq_getElem h]; rfl
/-- One more text behind a separator. -/
theorem sep_step {α : Type} (f : α → List UInt8) (l : List α) (i : Nat) (h : i < l.length) : sepL ((l.map f).take (i + 1)) = sepL ((l.map f).take i) ++ ((if i = 0 then [] else [44, 32]) ++ f l[i]) := by
  rw [take_snoc (map_getElem f l i h), sepL_snoc]
  by_cases h0 : i = 0
  · subst h0; simp
  · rw [if_neg h0, if_neg]
    intro hn
    rcases List.take_eq_nil_iff.1 hn with h1 | h1
    · exact h0 h1
    · rw [List.map_eq_nil_iff] at h1
      rw [h1] at h
      simp at h
theorem nodeB_two {nm : List UInt8} {n : Int} {ls : List Int} {xs : List E} (h : nodeB (.mk 2 nm n ls xs) = true) : xs = [] := by
  simp [nodeB] at h
  exact h.2.2
theorem nodeB_twoN {nm : List UInt8} {n : Int} {ls : List Int} {xs : List E} (h : nodeB (.mk 2 nm n ls xs) = true) : nm = [] := by
  simp [nodeB] at h
  exact h.2.1.2
theorem nodeB_three {nm : List UInt8} {n : Int} {ls : List Int} {xs : List E} (h : nodeB (.mk 3 nm n ls xs) = true) : ls = [] := by
  simp [nodeB] at h
  exact h.2.2
def RelTI (W : World) (ls : List Int) (v3 v5 : Value) (g : Nat) (wr : World) : Prop :=
  ∃ i, i + g = ls.length ∧ v5 = .int .i64 i ∧ v3 = .string ⟨([91] ++ sepL ((ls.map Lib.itoa).take i)).toArray⟩ ∧ wr = W
def RelTA (W : World) (nm : List UInt8) (xs : List E) (v3 v6 : Value) (g : Nat) (wr : World) : Prop :=
  ∃ i, i + g = xs.length ∧ v6 = .int .i64 i ∧ v3 = .string ⟨(nm ++ [40] ++ sepL ((xs.map textE).take i)).toArray⟩ ∧ Below W.heap.size W wr

set_option maxHeartbeats 4000000 in
set_option maxRecDepth 100000 in
theorem rtext_c : ∀ (x : E) (cs : List Value) (F : Nat → Prop) (w : World), ExprC w F x cs → formE x = true → sizeE x ≤ 1000000000 → entE x ≤ 1000000000 →
    Calls Tryd.prog 20 #[.agg cs.toArray] w fun e w' => e = .returned (.string ⟨(textE x).toArray⟩) ∧ Below w.heap.size w w' := by
  refine expr_ind_ ?_
  intro k nm n ls xs ih cs F w h hf hs he
  have htl := text_len _ hf
  unfold ExprC at h
  obtain ⟨la, lc, aa, ac, rfl, hi, ha⟩ := h
  obtain ⟨hnb, hfl⟩ := formE_mk hf
  have hs' : 1 + sizeL xs ≤ 1000000000 := by unfold sizeE at hs; exact hs
  have he' : ls.length + entL xs ≤ 1000000000 := by unfold entE at he; exact he
  have hlen : xs.length ≤ 1000000000 := by have := len_sizeL xs; omega
  have hll : ls.length ≤ 1000000000 := by omega
  have HIH : Hid (∀ (i : Nat) (h : i < xs.length) (cs' : List Value) (w' : World), ExprC w' F xs[i] cs' → Calls Tryd.prog 20 #[.agg cs'.toArray] w' fun e w'' => e = .returned (.string ⟨(textE xs[i]).toArray⟩) ∧ Below w'.heap.size w' w'') := by
    intro i h cs' w' hec'
    exact ih _ (List.getElem_mem h) cs' F w' hec' (formL_all hfl _ (List.getElem_mem h)) (by have := sizeL_mem xs _ (List.getElem_mem h); omega) (by have := entL_mem xs _ (List.getElem_mem h); omega)
  have HA : Hid (ArgsAt w F aa xs) := ha
  have HI := Lib.hid hi
  have HTX : Hid (textE (.mk k nm n ls xs) = if k = 1 then Lib.itoa n else if k = 2 then [91] ++ sepL (ls.map Lib.itoa) ++ [93] else if k = 4 then nm else if k = 3 then nm ++ [40] ++ sepL (textL xs) ++ [41] else []) := by show _ = _; conv => lhs; unfold textE
  have htl2 : (textE (.mk k nm n ls xs)).length ≤ 100000000000 := by omega
  have kc := nodeB_kind hnb
  have HNB := Lib.hid hnb
  clear ih ha hi htl hs he hs' he' hfl hf hnb
  have hb0 : Below w.heap.size w (w.alloc (.cells #[.int .i64 k, .string ⟨nm.toArray⟩, .int .i64 n, .slice la ls.length lc, .slice aa xs.length ac] 26)) := (Below.refl _ _).alloc (Nat.le_refl _) _
  have HI1 := Lib.hid (HI.out.mono (fun b hF hlt => ⟨hF, hb0.block b hlt⟩))
  have HA1 := Lib.hid (HA.out.grow hb0)
  have HB0 := Lib.hid hb0
  clear hb0 HI HA
  have hR : (w.alloc (.cells #[.int .i64 k, .string ⟨nm.toArray⟩, .int .i64 n, .slice la ls.length lc, .slice aa xs.length ac] 26)).heap[w.heap.size]? = some (.cells #[.int .i64 k, .string ⟨nm.toArray⟩, .int .i64 n, .slice la ls.length lc, .slice aa xs.length ac] 26 (0, 0)) := heap_alloc_new _ _
  have hwl : w.heap.size < (w.alloc (.cells #[.int .i64 k, .string ⟨nm.toArray⟩, .int .i64 n, .slice la ls.length lc, .slice aa xs.length ac] 26)).heap.size := by rw [World.size_alloc]; omega
  obtain ⟨c0, c1, c2, c3, c4⟩ := cells5 hR
  clear hR
  go_enter Tryd.func20, Tryd.ntmps20
  go_upto_region 1 with fail
  go_simp
  generalize w.alloc (.cells #[.int .i64 k, .string ⟨nm.toArray⟩, .int .i64 n, .slice la ls.length lc, .slice aa xs.length ac] 26) = W at *
  rcases kc with rfl | rfl | rfl | rfl
  · have HT1 : Hid (textE (.mk 1 nm n ls xs) = Lib.itoa n) := by show _ = _; rw [HTX.out]; rfl
    obtain ⟨hn0, hn1⟩ := nodeB_n HNB.out rfl
    clear HIH HTX HA1 HI1 HNB
    go_wp2_with (go_at_call 41; refine (digits_c _ _ hn0 hn1).mono ?_; rintro e w' ⟨rfl, rfl⟩)
    go_ret
    exact ⟨ret_str (by rw [HT1.out]), HB0.out⟩
  · have HT1 : Hid (textE (.mk 2 nm n ls xs) = [91] ++ sepL (ls.map Lib.itoa) ++ [93]) := by show _ = _; rw [HTX.out]; rfl
    rw [HT1.out] at htl2
    simp only [List.length_append, List.length_cons, List.length_nil] at htl2
    have HLIT := Lib.hid (nodeB_lits HNB.out)
    obtain rfl := nodeB_two HNB.out
    have hnml : nm.length ≤ 1000 := by rw [nodeB_twoN HNB.out]; simp
    clear HIH HTX HA1 HNB
    go_wp2_with fail
    clear c0 c1 c2
    go_loopg [3, 5] ls.length (fun g v3 v5 wr => RelTI W ls v3 v5 g wr)
    case atStart => exact ⟨0, by omega, rfl, by simp [sepL], rfl⟩
    case round =>
      obtain ⟨i, hig, rfl, rfl, rfl⟩ := hrel
      have hl1 := sepL_len_take (ls.map Lib.itoa) i
      by_cases hi : i < ls.length
      · obtain ⟨b, o, rfl, _, hcell⟩ := HI1.out (by omega)
        have p := hcell i hi
        rw [List.getD_eq_getElem?_getD, List.getElem?_eq_getElem hi] at p
        have p' : wr.cell? ⟨b, o + i, none⟩ = some (.int .i64 ls[i]) := p
        obtain ⟨hz0, hz1⟩ := all_lit HLIT.out i hi
        have HSS := Lib.hid (sep_step Lib.itoa ls i hi)
        have hzl := Lib.itoa_length_le ls[i] (by omega) (by omega)
        have hi0 : (0 : Int) ≤ (i : Int) := by omega
        have hi1 : (i : Int) < (ls.length : Int) := by omega
        clear hcell p HI1 HLIT
        generalize ls[i] = z at *
        have hl2 : ([91] ++ sepL ((ls.map Lib.itoa).take i)).length ≤ 100000000001 := by simp only [List.length_append, List.length_cons, List.length_nil]; omega
        generalize hout : [91] ++ sepL ((ls.map Lib.itoa).take i) = out at *
        have HOUT := Lib.hid hout
        clear hout hl1
        by_cases hz : i = 0
        · subst hz
          have p'' : wr.cell? ⟨b, o, none⟩ = some (.int .i64 z) := p'
          go_wp2_with (go_at_call 41; refine (digits_c _ _ hz0 hz1).mono ?_; rintro e w' ⟨rfl, rfl⟩)
          go_roundg (ls.length - (0 + 1))
          case measure => omega
          case rel => exact ⟨0 + 1, by omega, by simp, str_eq (by rw [HSS.out, ← List.append_assoc, HOUT.out, ba_append]; rfl), rfl⟩
        · go_wp2_with (go_at_call 41; refine (digits_c _ _ hz0 hz1).mono ?_; rintro e w' ⟨rfl, rfl⟩)
          go_roundg (ls.length - (i + 1))
          case measure => omega
          case rel =>
            refine ⟨i + 1, by omega, by simp, str_eq ?_, rfl⟩
            rw [HSS.out, ← List.append_assoc, HOUT.out, if_neg hz, ← List.append_assoc, ← ba_append, ← ba_append]
      · have HTK : Hid (([91] ++ sepL ((ls.map Lib.itoa).take i)) = [91] ++ sepL (ls.map Lib.itoa)) := by show _ = _; rw [List.take_of_length_le (by simp; omega)]
        rw [HTK.out]
        have hl2 : ([91] ++ sepL (ls.map Lib.itoa)).length ≤ 100000000001 := by simp only [List.length_append, List.length_cons, List.length_nil]; omega
        generalize hout : [91] ++ sepL (ls.map Lib.itoa) = out at *
        have HOUT := Lib.hid hout
        clear hout HTK
        go_wp2_with fail
        refine wp_loop_rounds 1 ?_
        rw [rounds_succ]
        go_wp2_with fail
        go_ret
        exact ⟨ret_str (by rw [HT1.out, ← ba_append]), HB0.out⟩
  · have HT1 : Hid (textE (.mk 3 nm n ls xs) = nm ++ [40] ++ sepL (xs.map textE) ++ [41]) := by show _ = _; rw [HTX.out, ← textL_map]; rfl
    rw [HT1.out] at htl2
    simp only [List.length_append, List.length_cons, List.length_nil] at htl2
    obtain rfl := nodeB_three HNB.out
    have hnml : nm.length ≤ 1000 := by have := nodeB_name HNB.out (.inl rfl); omega
    have C4 := Lib.hid c4
    clear HTX HI1 HNB
    go_wp2_with fail
    refine wp_loop_rounds 1 ?_
    rw [rounds_succ]
    go_wp2_with fail
    clear c0 c1 c2 c3 c4
    go_loopg [3, 6] xs.length (fun g v3 v6 wr => RelTA W nm xs v3 v6 g wr)
    case atStart => exact ⟨0, by omega, rfl, str_eq (by rw [List.take_zero]; show _ = (⟨(nm ++ [40] ++ []).toArray⟩ : ByteArray); rw [List.append_nil, ← ba_append]), Below.refl _ _⟩
    case round =>
      obtain ⟨i, hig, rfl, rfl, hbr⟩ := hrel
      have hl1 := sepL_len_take (xs.map textE) i
      have HBR := Lib.hid hbr
      have HAR := Lib.hid (HA1.out.grow hbr)
      have d4 : wr.cell? ⟨w.heap.size, 4, none⟩ = some (.slice aa xs.length ac) := (hbr.cell (p := ⟨w.heap.size, 4, none⟩) hwl).trans C4.out
      clear hbr HA1 C4
      by_cases hi : i < xs.length
      · obtain ⟨b, o, k', nm', n', la', ll', lc', ab', al', ac', rfl, hrg, hec⟩ := HAR.out.at_ hi
        have HRG := Lib.hid hrg
        have HC : Hid (Calls Tryd.prog 20 #[.agg #[.int .i64 k', .string nm', .int .i64 n', .slice la' ll' lc', .slice ab' al' ac']] wr fun e w'' => e = .returned (.string ⟨(textE xs[i]).toArray⟩) ∧ Below wr.heap.size wr w'') := HIH.out i hi _ wr hec
        have hss := sep_step textE xs i hi
        have hl3 := sepL_len_take (xs.map textE) (i + 1)
        have hl4 := congrArg List.length hss
        simp only [List.length_append] at hl4
        have HSS := Lib.hid hss
        have hi0 : (0 : Int) ≤ (i : Int) := by omega
        have hi1 : (i : Int) < (xs.length : Int) := by omega
        have hzl : (textE xs[i]).length ≤ 100000000001 := by omega
        clear hrg hec HAR HIH hss hl3 hl4
        generalize textE xs[i] = z at *
        have hl2 : (nm ++ [40] ++ sepL ((xs.map textE).take i)).length ≤ 100000000001 := by simp only [List.length_append, List.length_cons, List.length_nil]; omega
        generalize hout : nm ++ [40] ++ sepL ((xs.map textE).take i) = out at *
        have HOUT := Lib.hid hout
        clear hout hl1
        by_cases hz : i = 0
        · subst hz
          go_wp2_with (refine wpList_load_mid rfl 26 (.tmp 58) rfl b (o + 0 * 5) rfl [.int .i64 k', .string nm', .int .i64 n', .slice la' ll' lc', .slice ab' al' ac'] _ HRG.out Tryd.underlying26 rfl exprSize ?_)
          refine HC.out.mono ?_
          rintro e w5 ⟨rfl, hb5⟩
          have HB5 := Lib.hid (HBR.out.trans (hb5.mono HBR.out.size))
          clear hb5 HC HBR
          go_wp2_with fail
          go_roundg (xs.length - (0 + 1))
          case measure => omega
          case rel => exact ⟨0 + 1, by omega, by simp, str_eq (by rw [HSS.out, ← List.append_assoc, HOUT.out, ba_append]; rfl), HB5.out⟩
        · go_wp2_with (refine wpList_load_mid rfl 26 (.tmp 58) rfl b (o + i * 5) rfl [.int .i64 k', .string nm', .int .i64 n', .slice la' ll' lc', .slice ab' al' ac'] _ HRG.out Tryd.underlying26 rfl exprSize ?_)
          refine HC.out.mono ?_
          rintro e w5 ⟨rfl, hb5⟩
          have HB5 := Lib.hid (HBR.out.trans (hb5.mono HBR.out.size))
          clear hb5 HC HBR
          go_wp2_with fail
          go_roundg (xs.length - (i + 1))
          case measure => omega
          case rel =>
            refine ⟨i + 1, by omega, by simp, str_eq ?_, HB5.out⟩
            rw [HSS.out, ← List.append_assoc, HOUT.out, if_neg hz, ← List.append_assoc, ← ba_append, ← ba_append]
      · have HTK : Hid ((nm ++ [40] ++ sepL ((xs.map textE).take i)) = nm ++ [40] ++ sepL (xs.map textE)) := by show _ = _; rw [List.take_of_length_le (by simp; omega)]
        rw [HTK.out]
        have hl2 : (nm ++ [40] ++ sepL (xs.map textE)).length ≤ 100000000001 := by simp only [List.length_append, List.length_cons, List.length_nil]; omega
        generalize hout : nm ++ [40] ++ sepL (xs.map textE) = out at *
        have HOUT := Lib.hid hout
        clear hout HTK
        go_wp2_with fail
        go_ret
        exact ⟨ret_str (by rw [HT1.out, ← ba_append]), HB0.out.trans (HBR.out.mono HB0.out.size)⟩
  · have HT1 : Hid (textE (.mk 4 nm n ls xs) = nm) := by show _ = _; rw [HTX.out]; rfl
    clear HIH HTX HA1 HI1 HNB
    go_wp2_with fail
    go_ret
    exact ⟨ret_str (by rw [HT1.out]), HB0.out⟩
#print axioms rtext_c
end Go.Proofs.YtbjagceopgofiaaDoor
