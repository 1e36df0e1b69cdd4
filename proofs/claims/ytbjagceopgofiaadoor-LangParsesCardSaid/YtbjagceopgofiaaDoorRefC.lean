/-
  The reference's Form.
-/
import Derived.Test.YtbjagceopgofiaaDoorRefB
import Derived.LoopN
namespace Go.Proofs.YtbjagceopgofiaaDoor
open Go.RowKit

def preB (k : Int) (nm : List UInt8) (n : Int) (ls : List Int) (xs : List E) : Bool :=
  if k = 1 then litB n && nm.isEmpty && ls.isEmpty && xs.isEmpty else if k = 2 then decide (n = 0) && nm.isEmpty && xs.isEmpty
    else if k = 3 then decide (n = 0) && nameB nm && ls.isEmpty else if k = 4 then decide (n = 0) && nameB nm && ls.isEmpty && xs.isEmpty else false
theorem formE_pre (k : Int) (nm : List UInt8) (n : Int) (ls : List Int) (xs : List E) : formE (.mk k nm n ls xs) = (ls.all litB && preB k nm n ls xs && formL xs) := by
  conv => lhs; unfold formE
  rfl
theorem nameB_empty {l : List UInt8} (h : nameB l = true) : l.isEmpty = false := by
  cases l with
  | nil => simp [nameB] at h
  | cons _ _ => rfl

set_option maxHeartbeats 8000000 in
set_option maxRecDepth 100000 in
theorem rform_c : ∀ (x : E) (cs : List Value) (F : Nat → Prop) (w : World), ExprC w F x cs → sizeE x ≤ 1000000000 → entE x ≤ 9223372036854775807 →
    Calls Tryd.prog 37 #[.agg cs.toArray] w fun e w' => e = .returned (.bool (formE x)) ∧ Below w.heap.size w w' := by
  refine expr_ind_ ?_
  intro k nm n ls xs ih cs F w h hs he
  unfold ExprC at h
  obtain ⟨la, lc, aa, ac, rfl, hi, ha⟩ := h
  have hs' : 1 + sizeL xs ≤ 1000000000 := by unfold sizeE at hs; exact hs
  have he' : ls.length + entL xs ≤ 9223372036854775807 := by unfold entE at he; exact he
  have hlen : xs.length ≤ 1000000000 := by have := len_sizeL xs; omega
  have HIH := Lib.hid ih
  have HA : Hid (ArgsAt w F aa xs) := ha
  have HI := Lib.hid hi
  have HFE := Lib.hid (formE_pre k nm n ls xs)
  have HSM : Hid (∀ i, (h : i < xs.length) → sizeE xs[i] ≤ 1000000000) := fun i h => by have := sizeL_mem xs _ (List.getElem_mem h); omega
  have HEM : Hid (∀ i, (h : i < xs.length) → entE xs[i] ≤ 9223372036854775807) := fun i h => by have := entL_mem xs _ (List.getElem_mem h); omega
  have hll : ls.length ≤ 9223372036854775807 := by omega
  clear ih ha hs he hs' he' hi
  go_enter Tryd.func37, Tryd.ntmps37
  go_upto_region 1 with fail
  have hb0 : Below w.heap.size w (w.alloc (.cells #[.int .i64 k, .string ⟨nm.toArray⟩, .int .i64 n, .slice la ls.length lc, .slice aa xs.length ac] 26)) := (Below.refl _ _).alloc (Nat.le_refl _) _
  have HI1 := Lib.hid (HI.out.mono (fun b hF hlt => ⟨hF, hb0.block b hlt⟩))
  have HA1 := Lib.hid (HA.out.grow hb0)
  have HB0 := Lib.hid hb0
  clear hb0 HI HA
  have c0 : (w.alloc (.cells #[.int .i64 k, .string ⟨nm.toArray⟩, .int .i64 n, .slice la ls.length lc, .slice aa xs.length ac] 26)).cell? ⟨w.heap.size, 0, none⟩ = some (.int .i64 k) := World.cell?_alloc_new _ _ _ 0
  have c1 : (w.alloc (.cells #[.int .i64 k, .string ⟨nm.toArray⟩, .int .i64 n, .slice la ls.length lc, .slice aa xs.length ac] 26)).cell? ⟨w.heap.size, 1, none⟩ = some (.string ⟨nm.toArray⟩) := World.cell?_alloc_new _ _ _ 1
  have c2 : (w.alloc (.cells #[.int .i64 k, .string ⟨nm.toArray⟩, .int .i64 n, .slice la ls.length lc, .slice aa xs.length ac] 26)).cell? ⟨w.heap.size, 2, none⟩ = some (.int .i64 n) := World.cell?_alloc_new _ _ _ 2
  have c3 : (w.alloc (.cells #[.int .i64 k, .string ⟨nm.toArray⟩, .int .i64 n, .slice la ls.length lc, .slice aa xs.length ac] 26)).cell? ⟨w.heap.size, 3, none⟩ = some (.slice la ls.length lc) := World.cell?_alloc_new _ _ _ 3
  have c4 : (w.alloc (.cells #[.int .i64 k, .string ⟨nm.toArray⟩, .int .i64 n, .slice la ls.length lc, .slice aa xs.length ac] 26)).cell? ⟨w.heap.size, 4, none⟩ = some (.slice aa xs.length ac) := World.cell?_alloc_new _ _ _ 4
  have hwl : w.heap.size < (w.alloc (.cells #[.int .i64 k, .string ⟨nm.toArray⟩, .int .i64 n, .slice la ls.length lc, .slice aa xs.length ac] 26)).heap.size := by rw [World.size_alloc]; omega
  go_simp
  generalize w.alloc (.cells #[.int .i64 k, .string ⟨nm.toArray⟩, .int .i64 n, .slice la ls.length lc, .slice aa xs.length ac] 26) = W at *
  by_cases h1 : k = 1
  · subst h1
    have HP : Hid (formE (.mk 1 nm n ls xs) = (ls.all litB && (litB n && nm.isEmpty && ls.isEmpty && xs.isEmpty) && formL xs)) := HFE.out
    clear HFE
    rcases List.eq_nil_or_concat xs with rfl | ⟨l0, a0, hcat⟩
    rotate_left
    · have hxs : 0 < xs.length := by rw [hcat]; simp
      have hxe : xs.isEmpty = false := by rw [hcat]; simp
      clear hcat
      clear HI1 HA1 HIH HSM HEM
      go_wp2_with (first | (go_at_call 69; refine (literal_c _ _).mono ?_; rintro e w' ⟨rfl, rfl⟩) | (go_at_call 68; refine (name_c _ _).mono ?_; rintro e w' ⟨rfl, rfl⟩))
      go_ret
      exact ⟨ret_bool (by rw [HP.out]; simp [hxe]), HB0.out⟩
    rcases List.eq_nil_or_concat ls with rfl | ⟨l1, a1, hcat⟩
    rotate_left
    · have hls : 0 < ls.length := by rw [hcat]; simp
      have hle : ls.isEmpty = false := by rw [hcat]; simp
      clear hcat
      clear HI1 HA1 HIH HSM HEM
      go_wp2_with (first | (go_at_call 69; refine (literal_c _ _).mono ?_; rintro e w' ⟨rfl, rfl⟩) | (go_at_call 68; refine (name_c _ _).mono ?_; rintro e w' ⟨rfl, rfl⟩))
      go_ret
      exact ⟨ret_bool (by rw [HP.out]; simp [hle]), HB0.out⟩
    by_cases hnm : nm = []
    rotate_left
    · have HNM : Hid (nm.isEmpty = false) := by show _ = _; simp [hnm]
      clear HI1 HA1 HIH HSM HEM
      go_wp2_with (first | (go_at_call 69; refine (literal_c _ _).mono ?_; rintro e w' ⟨rfl, rfl⟩) | (go_at_call 68; refine (name_c _ _).mono ?_; rintro e w' ⟨rfl, rfl⟩))
      go_ret
      exact ⟨ret_bool (by rw [HP.out]; simp [HNM.out]), HB0.out⟩
    subst hnm
    cases hlt : litB n
    · have HLT := Lib.hid hlt
      clear HI1 HA1 HIH HSM HEM
      go_wp2_with (first | (go_at_call 69; refine (literal_c _ _).mono ?_; rintro e w' ⟨rfl, rfl⟩) | (go_at_call 68; refine (name_c _ _).mono ?_; rintro e w' ⟨rfl, rfl⟩))
      go_ret
      exact ⟨ret_bool (by rw [HP.out]; simp [HLT.out]), HB0.out⟩
    clear HI1 HA1 HIH HSM HEM
    go_wp2_with (first | (go_at_call 69; refine (literal_c _ _).mono ?_; rintro e w' ⟨rfl, rfl⟩) | (go_at_call 68; refine (name_c _ _).mono ?_; rintro e w' ⟨rfl, rfl⟩))
    refine wp_loop_rounds 1 ?_
    rw [rounds_succ]
    go_wp2_with fail
    refine wp_loop_rounds 1 ?_
    rw [rounds_succ]
    go_wp2_with fail
    go_ret
    exact ⟨ret_bool (by rw [HP.out]; simp [hlt, formL]), HB0.out⟩
  by_cases h2 : k = 2
  · subst h2
    have HP : Hid (formE (.mk 2 nm n ls xs) = (ls.all litB && (decide (n = 0) && nm.isEmpty && xs.isEmpty) && formL xs)) := HFE.out
    clear HFE
    rcases List.eq_nil_or_concat xs with rfl | ⟨l0, a0, hcat⟩
    rotate_left
    · have hxs : 0 < xs.length := by rw [hcat]; simp
      have hxe : xs.isEmpty = false := by rw [hcat]; simp
      clear hcat
      clear HI1 HA1 HIH HSM HEM
      go_wp2_with (first | (go_at_call 69; refine (literal_c _ _).mono ?_; rintro e w' ⟨rfl, rfl⟩) | (go_at_call 68; refine (name_c _ _).mono ?_; rintro e w' ⟨rfl, rfl⟩))
      go_ret
      exact ⟨ret_bool (by rw [HP.out]; simp [hxe]), HB0.out⟩
    by_cases hn0 : n = 0
    rotate_left
    · have HN0 : Hid (decide (n = 0) = false) := by show _ = _; simp [hn0]
      clear HI1 HA1 HIH HSM HEM
      go_wp2_with (first | (go_at_call 69; refine (literal_c _ _).mono ?_; rintro e w' ⟨rfl, rfl⟩) | (go_at_call 68; refine (name_c _ _).mono ?_; rintro e w' ⟨rfl, rfl⟩))
      go_ret
      exact ⟨ret_bool (by rw [HP.out]; simp [HN0.out]), HB0.out⟩
    subst hn0
    by_cases hnm : nm = []
    rotate_left
    · have HNM : Hid (nm.isEmpty = false) := by show _ = _; simp [hnm]
      clear HI1 HA1 HIH HSM HEM
      go_wp2_with (first | (go_at_call 69; refine (literal_c _ _).mono ?_; rintro e w' ⟨rfl, rfl⟩) | (go_at_call 68; refine (name_c _ _).mono ?_; rintro e w' ⟨rfl, rfl⟩))
      go_ret
      exact ⟨ret_bool (by rw [HP.out]; simp [HNM.out]), HB0.out⟩
    subst hnm
    clear HA1 HIH HSM HEM
    go_wp2_with (first | (go_at_call 69; refine (literal_c _ _).mono ?_; rintro e w' ⟨rfl, rfl⟩) | (go_at_call 68; refine (name_c _ _).mono ?_; rintro e w' ⟨rfl, rfl⟩))
    go_loopg [4] ls.length (fun g v4 wr => RelList2 ls v4 g ∧ wr = W)
    case atStart => exact ⟨⟨0, by omega, rfl, by simp⟩, rfl⟩
    case round =>
      obtain ⟨⟨i, hig, rfl, hall⟩, rfl⟩ := hrel
      have HALL := Lib.hid hall
      clear hall
      by_cases hi : i < ls.length
      · obtain ⟨b, o, rfl, _, hcell⟩ := HI1.out (by omega)
        have p := hcell i hi
        have hi0 : (0 : Int) ≤ (i : Int) := by omega
        have hi1 : (i : Int) < (ls.length : Int) := by omega
        have HALL2 := Lib.hid (take_all (p := litB) hi)
        have HALF : Hid (litB (ls.getD i 0) = false → ls.all litB = false) := all_false hi
        clear hcell
        generalize ls.getD i 0 = z at *
        cases hz : litB z
        · go_wp2_with (first | (go_at_call 69; refine (literal_c _ _).mono ?_; rintro e w' ⟨rfl, rfl⟩) | (go_at_call 68; refine (name_c _ _).mono ?_; rintro e w' ⟨rfl, rfl⟩))
          go_ret
          exact ⟨ret_bool (by rw [HP.out, HALF.out hz]; rfl), HB0.out⟩
        · go_wp2_with (first | (go_at_call 69; refine (literal_c _ _).mono ?_; rintro e w' ⟨rfl, rfl⟩) | (go_at_call 68; refine (name_c _ _).mono ?_; rintro e w' ⟨rfl, rfl⟩))
          go_roundg (ls.length - (i + 1))
          case measure => omega
          case rel => exact ⟨⟨i + 1, by omega, by simp, by rw [HALL2.out, HALL.out, hz]; rfl⟩, rfl⟩
      · have hall : ls.all litB = true := by
          have := HALL.out
          rwa [List.take_of_length_le (by omega)] at this
        have HAL := Lib.hid hall
        clear hall HALL HI1
        go_wp2_with fail
        refine wp_loop_rounds 1 ?_
        rw [rounds_succ]
        go_wp2_with fail
        go_ret
        exact ⟨ret_bool (by rw [HP.out, HAL.out]; simp [formL]), HB0.out⟩
  by_cases h3 : k = 3
  · subst h3
    have HP : Hid (formE (.mk 3 nm n ls xs) = (ls.all litB && (decide (n = 0) && nameB nm && ls.isEmpty) && formL xs)) := HFE.out
    clear HFE
    rcases List.eq_nil_or_concat ls with rfl | ⟨l1, a1, hcat⟩
    rotate_left
    · have hls : 0 < ls.length := by rw [hcat]; simp
      have hle : ls.isEmpty = false := by rw [hcat]; simp
      clear hcat
      clear HI1 HA1 HIH HSM HEM
      go_wp2_with (first | (go_at_call 69; refine (literal_c _ _).mono ?_; rintro e w' ⟨rfl, rfl⟩) | (go_at_call 68; refine (name_c _ _).mono ?_; rintro e w' ⟨rfl, rfl⟩))
      go_ret
      exact ⟨ret_bool (by rw [HP.out]; simp [hle]), HB0.out⟩
    by_cases hn0 : n = 0
    rotate_left
    · have HN0 : Hid (decide (n = 0) = false) := by show _ = _; simp [hn0]
      clear HI1 HA1 HIH HSM HEM
      go_wp2_with (first | (go_at_call 69; refine (literal_c _ _).mono ?_; rintro e w' ⟨rfl, rfl⟩) | (go_at_call 68; refine (name_c _ _).mono ?_; rintro e w' ⟨rfl, rfl⟩))
      go_ret
      exact ⟨ret_bool (by rw [HP.out]; simp [HN0.out]), HB0.out⟩
    subst hn0
    by_cases hnm : nm = []
    · subst hnm
      have HNM : Hid (nameB [] = false) := by show _ = _; simp [nameB]
      clear HI1 HA1 HIH HSM HEM
      go_wp2_with (first | (go_at_call 69; refine (literal_c _ _).mono ?_; rintro e w' ⟨rfl, rfl⟩) | (go_at_call 68; refine (name_c _ _).mono ?_; rintro e w' ⟨rfl, rfl⟩))
      go_ret
      exact ⟨ret_bool (by rw [HP.out]; simp [HNM.out]), HB0.out⟩
    cases hnb : nameB nm
    · have HNM := Lib.hid hnb
      have hnb' : nameB (⟨nm.toArray⟩ : ByteArray).data.toList = false := hnb
      clear HI1 HA1 HIH HSM HEM
      go_wp2_with (first | (go_at_call 69; refine (literal_c _ _).mono ?_; rintro e w' ⟨rfl, rfl⟩) | (go_at_call 68; refine (name_c _ _).mono ?_; rintro e w' ⟨rfl, rfl⟩))
      go_ret
      exact ⟨ret_bool (by rw [HP.out]; simp [HNM.out]), HB0.out⟩
    have hnb' : nameB (⟨nm.toArray⟩ : ByteArray).data.toList = true := hnb
    have hne : nm.isEmpty = false := nameB_empty hnb
    have hl0 : litB 0 = true := rfl
    clear HI1
    have HFM : Hid (∀ i, (h : i < xs.length) → formE xs[i] = false → formL xs = false) := fun i h hf => formL_mem xs _ (List.getElem_mem h) hf
    go_wp2_with (first | (go_at_call 69; refine (literal_c _ _).mono ?_; rintro e w' ⟨rfl, rfl⟩) | (go_at_call 68; refine (name_c _ _).mono ?_; rintro e w' ⟨rfl, rfl⟩))
    refine wp_loop_rounds 1 ?_
    rw [rounds_succ]
    go_wp2_with fail
    have C4 := Lib.hid c4
    clear c0 c1 c2 c3 c4
    go_loopg [5] xs.length (fun g v wr => RelForm W xs v g wr)
    case atStart => exact ⟨0, by omega, rfl, by simp [formL], Below.refl _ _⟩
    case round =>
      obtain ⟨i, hig, rfl, hfl, hbr⟩ := hrel
      have HFL := Lib.hid hfl
      have HBR := Lib.hid hbr
      have HAR := Lib.hid (HA1.out.grow hbr)
      have d4 : wr.cell? ⟨w.heap.size, 4, none⟩ = some (.slice aa xs.length ac) := (hbr.cell (p := ⟨w.heap.size, 4, none⟩) hwl).trans C4.out
      clear hbr HA1 hfl C4
      by_cases hi : i < xs.length
      · obtain ⟨b, o, k', nm', n', la', ll', lc', ab', al', ac', rfl, hrg, hec⟩ := HAR.out.at_ hi
        have HSZ : Hid (formL (xs.take (i + 1)) = (formL (xs.take i) && formE xs[i])) := by show _ = _; rw [take_snoc (List.getElem?_eq_getElem hi), formL_snoc]
        have HRG := Lib.hid hrg
        have HFM2 := Lib.hid (HFM.out i hi)
        have HC : Hid (Calls Tryd.prog 37 #[.agg #[.int .i64 k', .string nm', .int .i64 n', .slice la' ll' lc', .slice ab' al' ac']] wr fun e w'' => e = .returned (.bool (formE xs[i])) ∧ Below wr.heap.size wr w'') := HIH.out xs[i] (List.getElem_mem hi) _ F wr hec (HSM.out i hi) (HEM.out i hi)
        clear hrg hec HAR
        generalize formE xs[i] = z at *
        have hi0 : (0 : Int) ≤ (i : Int) := by omega
        have hi1 : (i : Int) < (xs.length : Int) := by omega
        cases hz : z
        · subst hz
          go_wp2_with (refine wpList_load_mid rfl 26 (.tmp 99) rfl b (o + i * 5) rfl [.int .i64 k', .string nm', .int .i64 n', .slice la' ll' lc', .slice ab' al' ac'] _ HRG.out Tryd.underlying26 rfl exprSize ?_)
          refine HC.out.mono ?_
          rintro e w5 ⟨rfl, hb5⟩
          have HB5 := Lib.hid (HBR.out.trans (hb5.mono HBR.out.size))
          clear hb5 HC HBR
          go_wp2_with fail
          go_ret
          exact ⟨ret_bool (by rw [HP.out, HFM2.out trivial, Bool.and_false]), HB0.out.trans (HB5.out.mono HB0.out.size)⟩
        · subst hz
          go_wp2_with (refine wpList_load_mid rfl 26 (.tmp 99) rfl b (o + i * 5) rfl [.int .i64 k', .string nm', .int .i64 n', .slice la' ll' lc', .slice ab' al' ac'] _ HRG.out Tryd.underlying26 rfl exprSize ?_)
          refine HC.out.mono ?_
          rintro e w5 ⟨rfl, hb5⟩
          have HB5 := Lib.hid (HBR.out.trans (hb5.mono HBR.out.size))
          clear hb5 HC HBR
          go_wp2_with fail
          go_roundg (xs.length - (i + 1))
          case measure => omega
          case rel => exact ⟨i + 1, by omega, by simp, by rw [HSZ.out, HFL.out]; rfl, HB5.out⟩
      · go_wp2_with fail
        go_ret
        refine ⟨ret_bool ?_, HB0.out.trans (HBR.out.mono HB0.out.size)⟩
        have := HFL.out
        rw [List.take_of_length_le (by omega)] at this
        rw [HP.out, this]
        simp [hnb]
  by_cases h4 : k = 4
  · subst h4
    have HP : Hid (formE (.mk 4 nm n ls xs) = (ls.all litB && (decide (n = 0) && nameB nm && ls.isEmpty && xs.isEmpty) && formL xs)) := HFE.out
    clear HFE
    rcases List.eq_nil_or_concat xs with rfl | ⟨l0, a0, hcat⟩
    rotate_left
    · have hxs : 0 < xs.length := by rw [hcat]; simp
      have hxe : xs.isEmpty = false := by rw [hcat]; simp
      clear hcat
      clear HI1 HA1 HIH HSM HEM
      go_wp2_with (first | (go_at_call 69; refine (literal_c _ _).mono ?_; rintro e w' ⟨rfl, rfl⟩) | (go_at_call 68; refine (name_c _ _).mono ?_; rintro e w' ⟨rfl, rfl⟩))
      go_ret
      exact ⟨ret_bool (by rw [HP.out]; simp [hxe]), HB0.out⟩
    rcases List.eq_nil_or_concat ls with rfl | ⟨l1, a1, hcat⟩
    rotate_left
    · have hls : 0 < ls.length := by rw [hcat]; simp
      have hle : ls.isEmpty = false := by rw [hcat]; simp
      clear hcat
      clear HI1 HA1 HIH HSM HEM
      go_wp2_with (first | (go_at_call 69; refine (literal_c _ _).mono ?_; rintro e w' ⟨rfl, rfl⟩) | (go_at_call 68; refine (name_c _ _).mono ?_; rintro e w' ⟨rfl, rfl⟩))
      go_ret
      exact ⟨ret_bool (by rw [HP.out]; simp [hle]), HB0.out⟩
    by_cases hn0 : n = 0
    rotate_left
    · have HN0 : Hid (decide (n = 0) = false) := by show _ = _; simp [hn0]
      clear HI1 HA1 HIH HSM HEM
      go_wp2_with (first | (go_at_call 69; refine (literal_c _ _).mono ?_; rintro e w' ⟨rfl, rfl⟩) | (go_at_call 68; refine (name_c _ _).mono ?_; rintro e w' ⟨rfl, rfl⟩))
      go_ret
      exact ⟨ret_bool (by rw [HP.out]; simp [HN0.out]), HB0.out⟩
    subst hn0
    by_cases hnm : nm = []
    · subst hnm
      have HNM : Hid (nameB [] = false) := by show _ = _; simp [nameB]
      clear HI1 HA1 HIH HSM HEM
      go_wp2_with (first | (go_at_call 69; refine (literal_c _ _).mono ?_; rintro e w' ⟨rfl, rfl⟩) | (go_at_call 68; refine (name_c _ _).mono ?_; rintro e w' ⟨rfl, rfl⟩))
      go_ret
      exact ⟨ret_bool (by rw [HP.out]; simp [HNM.out]), HB0.out⟩
    cases hnb : nameB nm
    · have HNM := Lib.hid hnb
      have hnb' : nameB (⟨nm.toArray⟩ : ByteArray).data.toList = false := hnb
      clear HI1 HA1 HIH HSM HEM
      go_wp2_with (first | (go_at_call 69; refine (literal_c _ _).mono ?_; rintro e w' ⟨rfl, rfl⟩) | (go_at_call 68; refine (name_c _ _).mono ?_; rintro e w' ⟨rfl, rfl⟩))
      go_ret
      exact ⟨ret_bool (by rw [HP.out]; simp [HNM.out]), HB0.out⟩
    have hnb' : nameB (⟨nm.toArray⟩ : ByteArray).data.toList = true := hnb
    have hne : nm.isEmpty = false := nameB_empty hnb
    have hl0 : litB 0 = true := rfl
    clear HI1 HA1 HIH HSM HEM
    go_wp2_with (first | (go_at_call 69; refine (literal_c _ _).mono ?_; rintro e w' ⟨rfl, rfl⟩) | (go_at_call 68; refine (name_c _ _).mono ?_; rintro e w' ⟨rfl, rfl⟩))
    refine wp_loop_rounds 1 ?_
    rw [rounds_succ]
    go_wp2_with fail
    refine wp_loop_rounds 1 ?_
    rw [rounds_succ]
    go_wp2_with fail
    go_ret
    exact ⟨ret_bool (by rw [HP.out]; simp [hnb, formL]), HB0.out⟩
  have HP : Hid (formE (.mk k nm n ls xs) = false) := by show _ = _; rw [HFE.out]; simp [preB, h1, h2, h3, h4]
  clear HFE HI1 HA1 HIH HSM HEM
  by_cases hk : k < 1
  · go_wp2_with fail
    go_ret
    exact ⟨ret_bool HP.out.symm, HB0.out⟩
  · go_wp2_with fail
    go_ret
    exact ⟨ret_bool HP.out.symm, HB0.out⟩
#print axioms rform_c
end Go.Proofs.YtbjagceopgofiaaDoor
