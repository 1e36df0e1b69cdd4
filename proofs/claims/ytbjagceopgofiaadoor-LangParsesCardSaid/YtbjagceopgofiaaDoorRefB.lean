/-
  The reference's Name, literal and Form.
-/
import Derived.Test.YtbjagceopgofiaaDoorRefA
import Derived.Test.YtbjagceopgofiaaDoorLexR
namespace Go.Proofs.YtbjagceopgofiaaDoor
open Go.RowKit

set_option maxHeartbeats 1000000 in
theorem literal_c (n : Int) (w : World) : Calls Tryd.prog 69 #[.int .i64 n] w fun e w' => e = .returned (.bool (litB n)) ∧ w = w' := by
  by_cases h0 : 0 ≤ n
  · go_enter Tryd.func69, Tryd.ntmps69
    go_wp2_with fail
    go_ret
    exact ⟨ret_bool (by simp [litB, h0]), rfl⟩
  · go_enter Tryd.func69, Tryd.ntmps69
    go_wp2_with fail
    go_ret
    exact ⟨ret_bool (by simp [litB]; omega), rfl⟩
theorem nameB_false_of {l : List UInt8} (h : l.length = 0 ∨ 16 < l.length ∨ (∃ c, l[0]? = some c ∧ isLet c = false) ∨ runEnd inNm l 0 ≠ l.length) : nameB l = false := by
  unfold nameB
  rw [decide_eq_false_iff_not]
  intro ⟨h1, h2, h3, h4⟩
  rcases h with h | h | ⟨c, hc, hl⟩ | h
  · exact h1 (List.length_eq_zero_iff.1 h)
  · omega
  · rw [h3 c hc] at hl; cases hl
  · exact h h4
theorem inNm_cases (c : UInt8) : inNm c = (isLet c || isDig c || decide (c.toNat = 95)) := rfl

set_option maxHeartbeats 2000000 in

theorem name_c (s : ByteArray) (w : World) : Calls Tryd.prog 68 #[.string s] w fun e w' => e = .returned (.bool (nameB s.data.toList)) ∧ w = w' := by
  have hlen := len_data s
  by_cases h0 : s.size = 0
  · have HN := Lib.hid (nameB_false_of (l := s.data.toList) (.inl (by omega)))
    go_enter Tryd.func68, Tryd.ntmps68
    go_wp2_with fail
    go_ret
    exact ⟨ret_bool HN.out.symm, rfl⟩
  · by_cases h16 : 16 < s.size
    · have HN := Lib.hid (nameB_false_of (l := s.data.toList) (.inr (.inl (by omega))))
      go_enter Tryd.func68, Tryd.ntmps68
      go_wp2_with fail
      go_ret
      exact ⟨ret_bool HN.out.symm, rfl⟩
    · have hp : 0 < s.size := by omega
      have hb := byte_at s 0 hp
      cases hl : isLet s[0]
      · have HN := Lib.hid (nameB_false_of (l := s.data.toList) (.inr (.inr (.inl ⟨_, hb, hl⟩))))
        clear hb
        go_enter Tryd.func68, Tryd.ntmps68
        go_wp2_with (go_at_call 46; refine (rletter_c _ _).mono ?_; rintro e w' ⟨rfl, rfl⟩)
        go_ret
        exact ⟨ret_bool HN.out.symm, rfl⟩
      · have HT : Hid (runEnd inNm s.data.toList 0 = s.data.toList.length → nameB s.data.toList = true) := by
          intro he
          unfold nameB
          rw [decide_eq_true_iff]
          exact ⟨fun h => by rw [h] at hlen; simp at hlen; omega, by omega, fun c hc => by rw [hb] at hc; injection hc with hc; rw [← hc]; exact hl, he⟩
        have HF : Hid (runEnd inNm s.data.toList 0 ≠ s.data.toList.length → nameB s.data.toList = false) := fun h => nameB_false_of (.inr (.inr (.inr h)))
        have HLEN := Lib.hid hlen
        clear hb hlen
        go_enter Tryd.func68, Tryd.ntmps68
        go_wp2_with (go_at_call 46; refine (rletter_c _ _).mono ?_; rintro e w' ⟨rfl, rfl⟩)
        clear hl
        go_loop [3] (fun t => RelRun inNm s 0 t) (fun t => s.size - (intOf t).toNat)
        case atStart => exact ⟨0, by omega, rfl, rfl⟩
        case round =>
          obtain ⟨k, hk, rfl, hr⟩ := hrel
          have HR := Lib.hid hr
          clear hr
          by_cases hlt : k < s.size
          · have hbk := byte_at s k hlt
            have HB := Lib.hid hbk
            have HI := Lib.hid (inNm_cases s[k])
            have hc256 : s[k].toNat < 256 := s[k].toNat_lt
            clear hbk
            cases hL : isLet s[k]
            · cases hD : isDig s[k]
              · go_wp2_with (first | (go_at_call 46; refine (rletter_c _ _).mono ?_; rintro e w' ⟨rfl, rfl⟩) | (go_at_call 44; refine (rdigit_c _ _).mono ?_; rintro e w' ⟨rfl, rfl⟩))
                · rename_i _ hne
                  have h95 : ¬ s[k].toNat = 95 := by simp at hne; omega
                  have hin : inNm s[k] = false := by rw [HI.out, hL, hD, decide_eq_false h95]; rfl
                  clear hne h95
                  go_ret
                  refine ⟨ret_bool (HF.out ?_).symm, rfl⟩
                  rw [← HR.out, runEnd_stop HB.out hin]
                  have := HLEN.out
                  omega
                · rename_i _ hne
                  have h95 : s[k].toNat = 95 := by simp at hne; omega
                  have hin : inNm s[k] = true := by rw [HI.out, decide_eq_true h95]; simp
                  clear hne h95
                  exact ⟨⟨k + 1, by omega, by go_num, by rw [← HR.out, runEnd_step HB.out hin]⟩, by simp [intOf]; omega⟩
              · have hin : Hid (inNm s[k] = true) := by show _ = _; rw [HI.out, hD]; simp
                go_wp2_with (first | (go_at_call 46; refine (rletter_c _ _).mono ?_; rintro e w' ⟨rfl, rfl⟩) | (go_at_call 44; refine (rdigit_c _ _).mono ?_; rintro e w' ⟨rfl, rfl⟩))
                go_round
                case rel => exact ⟨k + 1, by omega, by go_num, by rw [← HR.out, runEnd_step HB.out hin.out]⟩
                case measure => simp [intOf]; omega
            · have hin : Hid (inNm s[k] = true) := by show _ = _; rw [HI.out, hL]; simp
              go_wp2_with (first | (go_at_call 46; refine (rletter_c _ _).mono ?_; rintro e w' ⟨rfl, rfl⟩) | (go_at_call 44; refine (rdigit_c _ _).mono ?_; rintro e w' ⟨rfl, rfl⟩))
              go_round
              case rel => exact ⟨k + 1, by omega, by go_num, by rw [← HR.out, runEnd_step HB.out hin.out]⟩
              case measure => simp [intOf]; omega
          · go_wp2_with fail
            go_ret
            refine ⟨ret_bool (HT.out ?_).symm, rfl⟩
            have := HLEN.out
            rw [← HR.out, runEnd_end (by omega)]
            omega
#print axioms name_c
end Go.Proofs.YtbjagceopgofiaaDoor
