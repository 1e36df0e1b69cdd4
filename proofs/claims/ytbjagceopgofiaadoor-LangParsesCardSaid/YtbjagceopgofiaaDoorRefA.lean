/-
  The reference's Size, Depth and long.
-/
import Derived.Test.YtbjagceopgofiaaDoorMeas
namespace Go.Proofs.YtbjagceopgofiaaDoor
open Go.RowKit

theorem shortL_mem : ∀ (l : List E) (x : E), x ∈ l → shortE x = false → shortL l = false
  | y :: r, x, hm, hf => by
    unfold shortL
    rcases List.mem_cons.1 hm with rfl | hm
    · rw [hf]; rfl
    · rw [shortL_mem r x hm hf, Bool.and_false]
def RelRS (W : World) (xs : List E) (v3 v4 : Value) (g : Nat) (wr : World) : Prop :=
  ∃ i, i + g = xs.length ∧ v3 = .int .i64 ((1 + sizeL (xs.take i) : Nat) : Int) ∧ v4 = .int .i64 i ∧ Below W.heap.size W wr

set_option maxHeartbeats 4000000 in
set_option maxRecDepth 100000 in
theorem rsize_c : ∀ (x : E) (cs : List Value) (F : Nat → Prop) (w : World), ExprC w F x cs → sizeE x ≤ 1000000000 →
    Calls Tryd.prog 23 #[.agg cs.toArray] w fun e w' => e = .returned (.int .i64 (sizeE x)) ∧ Below w.heap.size w w' := by
  refine expr_ind_ ?_
  intro k nm n ls xs ih cs F w h hs
  unfold ExprC at h
  obtain ⟨la, lc, aa, ac, rfl, _, ha⟩ := h
  have hs' : 1 + sizeL xs ≤ 1000000000 := by unfold sizeE at hs; exact hs
  have hlen : xs.length ≤ 1000000000 := by have := len_sizeL xs; omega
  have HIH := Lib.hid ih
  have HA : Hid (ArgsAt w F aa xs) := ha
  have HS : Hid (sizeE (.mk k nm n ls xs) = 1 + sizeL xs) := by show _ = _; conv => lhs; unfold sizeE
  clear ih ha hs
  go_enter Tryd.func23, Tryd.ntmps23
  go_wp2_with fail
  have hb0 : Below w.heap.size w (w.alloc (.cells #[.int .i64 k, .string ⟨nm.toArray⟩, .int .i64 n, .slice la ls.length lc, .slice aa xs.length ac] 26)) := (Below.refl _ _).alloc (Nat.le_refl _) _
  have HA1 := Lib.hid (HA.out.grow hb0)
  have HB0 := Lib.hid hb0
  have c4 : (w.alloc (.cells #[.int .i64 k, .string ⟨nm.toArray⟩, .int .i64 n, .slice la ls.length lc, .slice aa xs.length ac] 26)).cell? ⟨w.heap.size, 4, none⟩ = some (.slice aa xs.length ac) := World.cell?_alloc_new _ _ _ 4
  have hwl : w.heap.size < (w.alloc (.cells #[.int .i64 k, .string ⟨nm.toArray⟩, .int .i64 n, .slice la ls.length lc, .slice aa xs.length ac] 26)).heap.size := by rw [World.size_alloc]; omega
  have C4 := Lib.hid c4
  clear hb0 HA c4
  generalize w.alloc (.cells #[.int .i64 k, .string ⟨nm.toArray⟩, .int .i64 n, .slice la ls.length lc, .slice aa xs.length ac] 26) = W at *
  go_loopg [3, 4] xs.length (fun g v3 v4 wr => RelRS W xs v3 v4 g wr)
  case atStart => exact ⟨0, by omega, by simp [sizeL], rfl, Below.refl _ _⟩
  case round =>
    obtain ⟨i, hig, rfl, rfl, hbr⟩ := hrel
    have HBR := Lib.hid hbr
    have HAR := Lib.hid (HA1.out.grow hbr)
    have d4 : wr.cell? ⟨w.heap.size, 4, none⟩ = some (.slice aa xs.length ac) := (hbr.cell (p := ⟨w.heap.size, 4, none⟩) hwl).trans C4.out
    clear hbr HA1 C4
    by_cases hi : i < xs.length
    · obtain ⟨b, o, k', nm', n', la', ll', lc', ab', al', ac', rfl, hrg, hec⟩ := HAR.out.at_ hi
      have hsz : sizeL (xs.take (i + 1)) = sizeL (xs.take i) + sizeE xs[i] := by rw [take_snoc (List.getElem?_eq_getElem hi), sizeL_snoc]
      have hsl := sizeL_take xs (i + 1)
      have HSZ := Lib.hid hsz
      have HRG := Lib.hid hrg
      have hse : sizeE xs[i] ≤ 1000000000 := by omega
      have hadd : 1 + sizeL (xs.take i) + sizeE xs[i] ≤ 1000000000 := by omega
      have HC : Hid (Calls Tryd.prog 23 #[.agg #[.int .i64 k', .string nm', .int .i64 n', .slice la' ll' lc', .slice ab' al' ac']] wr fun e w'' => e = .returned (.int .i64 (sizeE xs[i])) ∧ Below wr.heap.size wr w'') :=
        HIH.out xs[i] (List.getElem_mem hi) _ F wr hec hse
      clear hsz hrg hec HAR
      generalize sizeE xs[i] = z at *
      generalize sizeL (xs.take i) = y at *
      have hi0 : (0 : Int) ≤ (i : Int) := by omega
      have hi1 : (i : Int) < (xs.length : Int) := by omega
      go_wp2_with (refine wpList_load_mid rfl 26 (.tmp 16) rfl b (o + i * 5) rfl [.int .i64 k', .string nm', .int .i64 n', .slice la' ll' lc', .slice ab' al' ac'] _ HRG.out Tryd.underlying26 rfl exprSize ?_)
      refine HC.out.mono ?_
      rintro e w5 ⟨rfl, hb5⟩
      have HB5 := Lib.hid (HBR.out.trans (hb5.mono HBR.out.size))
      clear hb5 HC HBR
      go_wp2_with fail
      go_roundg (xs.length - (i + 1))
      case measure => omega
      case rel => exact ⟨i + 1, by omega, by rw [HSZ.out]; simp; omega, by simp, HB5.out⟩
    · go_wp2_with fail
      go_ret
      refine ⟨ret_int ?_, HB0.out.trans (HBR.out.mono HB0.out.size)⟩
      rw [HS.out, List.take_of_length_le (by omega)]

def RelRD (W : World) (xs : List E) (v3 v4 : Value) (g : Nat) (wr : World) : Prop :=
  ∃ i, i + g = xs.length ∧ v3 = .int .i64 (depthL (xs.take i)) ∧ v4 = .int .i64 i ∧ Below W.heap.size W wr
set_option maxHeartbeats 4000000 in
set_option maxRecDepth 100000 in
theorem rdepth_c : ∀ (x : E) (cs : List Value) (F : Nat → Prop) (w : World), ExprC w F x cs → sizeE x ≤ 1000000000 →
    Calls Tryd.prog 39 #[.agg cs.toArray] w fun e w' => e = .returned (.int .i64 (depthE x)) ∧ Below w.heap.size w w' := by
  refine expr_ind_ ?_
  intro k nm n ls xs ih cs F w h hs
  unfold ExprC at h
  obtain ⟨la, lc, aa, ac, rfl, _, ha⟩ := h
  have hs' : 1 + sizeL xs ≤ 1000000000 := by unfold sizeE at hs; exact hs
  have hlen : xs.length ≤ 1000000000 := by have := len_sizeL xs; omega
  have HIH := Lib.hid ih
  have HA : Hid (ArgsAt w F aa xs) := ha
  have HD : Hid (depthE (.mk k nm n ls xs) = depthL xs + 1) := by show _ = _; conv => lhs; unfold depthE
  have HSM : Hid (∀ i, (h : i < xs.length) → sizeE xs[i] ≤ 1000000000) := fun i h => by have := sizeL_mem xs _ (List.getElem_mem h); omega
  have hdl : depthL xs ≤ 1000000000 := by have := depths_size xs; omega
  have HDM : Hid (∀ i, (h : i < xs.length) → depthE xs[i] ≤ 1000000000) := fun i h => by have := depthL_mem xs _ (List.getElem_mem h); omega
  have HDT : Hid (∀ i, depthL (xs.take i) ≤ 1000000000) := fun i => by have h1 := depths_size (xs.take i); have h2 := sizeL_take xs i; omega
  clear ih ha hs hs'
  go_enter Tryd.func39, Tryd.ntmps39
  go_wp2_with fail
  have hb0 : Below w.heap.size w (w.alloc (.cells #[.int .i64 k, .string ⟨nm.toArray⟩, .int .i64 n, .slice la ls.length lc, .slice aa xs.length ac] 26)) := (Below.refl _ _).alloc (Nat.le_refl _) _
  have HA1 := Lib.hid (HA.out.grow hb0)
  have HB0 := Lib.hid hb0
  have c4 : (w.alloc (.cells #[.int .i64 k, .string ⟨nm.toArray⟩, .int .i64 n, .slice la ls.length lc, .slice aa xs.length ac] 26)).cell? ⟨w.heap.size, 4, none⟩ = some (.slice aa xs.length ac) := World.cell?_alloc_new _ _ _ 4
  have hwl : w.heap.size < (w.alloc (.cells #[.int .i64 k, .string ⟨nm.toArray⟩, .int .i64 n, .slice la ls.length lc, .slice aa xs.length ac] 26)).heap.size := by rw [World.size_alloc]; omega
  have C4 := Lib.hid c4
  clear hb0 HA c4
  generalize w.alloc (.cells #[.int .i64 k, .string ⟨nm.toArray⟩, .int .i64 n, .slice la ls.length lc, .slice aa xs.length ac] 26) = W at *
  go_loopg [3, 4] xs.length (fun g v3 v4 wr => RelRD W xs v3 v4 g wr)
  case atStart => exact ⟨0, by omega, by simp [depthL], rfl, Below.refl _ _⟩
  case round =>
    obtain ⟨i, hig, rfl, rfl, hbr⟩ := hrel
    have HBR := Lib.hid hbr
    have HAR := Lib.hid (HA1.out.grow hbr)
    have d4 : wr.cell? ⟨w.heap.size, 4, none⟩ = some (.slice aa xs.length ac) := (hbr.cell (p := ⟨w.heap.size, 4, none⟩) hwl).trans C4.out
    have hz2 := HDT.out i
    clear hbr HA1 C4
    by_cases hi : i < xs.length
    · obtain ⟨b, o, k', nm', n', la', ll', lc', ab', al', ac', rfl, hrg, hec⟩ := HAR.out.at_ hi
      have HDZ : Hid (depthL (xs.take (i + 1)) = Nat.max (depthL (xs.take i)) (depthE xs[i])) := by show _ = _; rw [take_snoc (List.getElem?_eq_getElem hi), depthL_snoc]
      have HRG := Lib.hid hrg
      have HC : Hid (Calls Tryd.prog 39 #[.agg #[.int .i64 k', .string nm', .int .i64 n', .slice la' ll' lc', .slice ab' al' ac']] wr fun e w'' => e = .returned (.int .i64 (depthE xs[i])) ∧ Below wr.heap.size wr w'') :=
        HIH.out xs[i] (List.getElem_mem hi) _ F wr hec (HSM.out i hi)
      have hz1 := HDM.out i hi
      clear hrg hec HAR
      generalize depthE xs[i] = dz at *
      generalize depthL (xs.take i) = dy at *
      have hi0 : (0 : Int) ≤ (i : Int) := by omega
      have hi1 : (i : Int) < (xs.length : Int) := by omega
      go_wp2_with (refine wpList_load_mid rfl 26 (.tmp 16) rfl b (o + i * 5) rfl [.int .i64 k', .string nm', .int .i64 n', .slice la' ll' lc', .slice ab' al' ac'] _ HRG.out Tryd.underlying26 rfl exprSize ?_)
      refine HC.out.mono ?_
      rintro e w5 ⟨rfl, hb5⟩
      have HB5 := Lib.hid (HBR.out.trans (hb5.mono HBR.out.size))
      clear hb5 HC HBR
      go_wp2_with fail
      all_goals
        go_roundg (xs.length - (i + 1))
        case measure => omega
        case rel => exact ⟨i + 1, by omega, by rw [HDZ.out]; simp [Nat.max_def, Int.max_def]; split <;> rfl, by simp, HB5.out⟩
    · go_wp2_with fail
      go_ret
      refine ⟨ret_int ?_, HB0.out.trans (HBR.out.mono HB0.out.size)⟩
      rw [HD.out, List.take_of_length_le (by omega)]
      simp

def RelRL (W : World) (xs : List E) (v3 : Value) (g : Nat) (wr : World) : Prop :=
  ∃ i, i + g = xs.length ∧ v3 = .int .i64 i ∧ shortL (xs.take i) = true ∧ Below W.heap.size W wr
set_option maxHeartbeats 4000000 in
set_option maxRecDepth 100000 in
theorem rlong_c : ∀ (x : E) (cs : List Value) (F : Nat → Prop) (w : World), ExprC w F x cs → sizeE x ≤ 1000000000 → entE x ≤ 9223372036854775807 →
    Calls Tryd.prog 38 #[.agg cs.toArray] w fun e w' => e = .returned (.bool (!shortE x)) ∧ Below w.heap.size w w' := by
  refine expr_ind_ ?_
  intro k nm n ls xs ih cs F w h hs he
  unfold ExprC at h
  obtain ⟨la, lc, aa, ac, rfl, _, ha⟩ := h
  have hs' : 1 + sizeL xs ≤ 1000000000 := by unfold sizeE at hs; exact hs
  have he' : ls.length + entL xs ≤ 9223372036854775807 := by unfold entE at he; exact he
  have hlen : xs.length ≤ 1000000000 := by have := len_sizeL xs; omega
  have HIH := Lib.hid ih
  have HA : Hid (ArgsAt w F aa xs) := ha
  have HS : Hid (shortE (.mk k nm n ls xs) = (decide (ls.length ≤ 4096) && shortL xs)) := by show _ = _; conv => lhs; unfold shortE
  have HSM : Hid (∀ i, (h : i < xs.length) → sizeE xs[i] ≤ 1000000000) := fun i h => by have := sizeL_mem xs _ (List.getElem_mem h); omega
  have HEM : Hid (∀ i, (h : i < xs.length) → entE xs[i] ≤ 9223372036854775807) := fun i h => by have := entL_mem xs _ (List.getElem_mem h); omega
  have HFM : Hid (∀ i, (h : i < xs.length) → shortE xs[i] = false → shortL xs = false) := fun i h hf => shortL_mem xs _ (List.getElem_mem h) hf
  have hll : ls.length ≤ 9223372036854775807 := by omega
  clear ih ha hs he hs' he'
  go_enter Tryd.func38, Tryd.ntmps38
  by_cases hl4 : 4096 < ls.length
  · go_wp2_with fail
    go_ret
    exact ⟨ret_bool (by rw [HS.out, decide_eq_false (by omega)]; rfl), (Below.refl _ _).alloc (Nat.le_refl _) _⟩
  · go_wp2_with fail
    have hb0 : Below w.heap.size w (w.alloc (.cells #[.int .i64 k, .string ⟨nm.toArray⟩, .int .i64 n, .slice la ls.length lc, .slice aa xs.length ac] 26)) := (Below.refl _ _).alloc (Nat.le_refl _) _
    have HA1 := Lib.hid (HA.out.grow hb0)
    have HB0 := Lib.hid hb0
    have c4 : (w.alloc (.cells #[.int .i64 k, .string ⟨nm.toArray⟩, .int .i64 n, .slice la ls.length lc, .slice aa xs.length ac] 26)).cell? ⟨w.heap.size, 4, none⟩ = some (.slice aa xs.length ac) := World.cell?_alloc_new _ _ _ 4
    have hwl : w.heap.size < (w.alloc (.cells #[.int .i64 k, .string ⟨nm.toArray⟩, .int .i64 n, .slice la ls.length lc, .slice aa xs.length ac] 26)).heap.size := by rw [World.size_alloc]; omega
    have C4 := Lib.hid c4
    clear hb0 HA c4
    generalize w.alloc (.cells #[.int .i64 k, .string ⟨nm.toArray⟩, .int .i64 n, .slice la ls.length lc, .slice aa xs.length ac] 26) = W at *
    go_loopg [3] xs.length (fun g v3 wr => RelRL W xs v3 g wr)
    case atStart => exact ⟨0, by omega, rfl, by simp [shortL], Below.refl _ _⟩
    case round =>
      obtain ⟨i, hig, rfl, hfl, hbr⟩ := hrel
      have HFL := Lib.hid hfl
      have HBR := Lib.hid hbr
      have HAR := Lib.hid (HA1.out.grow hbr)
      have d4 : wr.cell? ⟨w.heap.size, 4, none⟩ = some (.slice aa xs.length ac) := (hbr.cell (p := ⟨w.heap.size, 4, none⟩) hwl).trans C4.out
      clear hbr HA1 C4 hfl
      by_cases hi : i < xs.length
      · obtain ⟨b, o, k', nm', n', la', ll', lc', ab', al', ac', rfl, hrg, hec⟩ := HAR.out.at_ hi
        have HSZ : Hid (shortL (xs.take (i + 1)) = (shortL (xs.take i) && shortE xs[i])) := by show _ = _; rw [take_snoc (List.getElem?_eq_getElem hi), shortL_snoc]
        have HRG := Lib.hid hrg
        have HFM2 := Lib.hid (HFM.out i hi)
        have HC : Hid (Calls Tryd.prog 38 #[.agg #[.int .i64 k', .string nm', .int .i64 n', .slice la' ll' lc', .slice ab' al' ac']] wr fun e w'' => e = .returned (.bool (!shortE xs[i])) ∧ Below wr.heap.size wr w'') :=
          HIH.out xs[i] (List.getElem_mem hi) _ F wr hec (HSM.out i hi) (HEM.out i hi)
        clear hrg hec HAR
        generalize shortE xs[i] = z at *
        have hi0 : (0 : Int) ≤ (i : Int) := by omega
        have hi1 : (i : Int) < (xs.length : Int) := by omega
        cases hz : z
        · subst hz
          go_wp2_with (refine wpList_load_mid rfl 26 (.tmp 18) rfl b (o + i * 5) rfl [.int .i64 k', .string nm', .int .i64 n', .slice la' ll' lc', .slice ab' al' ac'] _ HRG.out Tryd.underlying26 rfl exprSize ?_)
          refine HC.out.mono ?_
          rintro e w5 ⟨rfl, hb5⟩
          have HB5 := Lib.hid (HBR.out.trans (hb5.mono HBR.out.size))
          clear hb5 HC HBR
          go_wp2_with fail
          go_ret
          exact ⟨ret_bool (by rw [HS.out, HFM2.out trivial, Bool.and_false]; rfl), HB0.out.trans (HB5.out.mono HB0.out.size)⟩
        · subst hz
          go_wp2_with (refine wpList_load_mid rfl 26 (.tmp 18) rfl b (o + i * 5) rfl [.int .i64 k', .string nm', .int .i64 n', .slice la' ll' lc', .slice ab' al' ac'] _ HRG.out Tryd.underlying26 rfl exprSize ?_)
          refine HC.out.mono ?_
          rintro e w5 ⟨rfl, hb5⟩
          have HB5 := Lib.hid (HBR.out.trans (hb5.mono HBR.out.size))
          clear hb5 HC HBR
          go_wp2_with fail
          go_roundg (xs.length - (i + 1))
          case measure => omega
          case rel => exact ⟨i + 1, by omega, by simp, by rw [HSZ.out, HFL.out]; rfl, HB5.out⟩
      · go_wp2_with fail
        go_ret
        refine ⟨ret_bool ?_, HB0.out.trans (HBR.out.mono HB0.out.size)⟩
        have := HFL.out
        rw [List.take_of_length_le (by omega)] at this
        rw [HS.out, this, decide_eq_true (by omega)]
        rfl
#print axioms rlong_c
end Go.Proofs.YtbjagceopgofiaaDoor
