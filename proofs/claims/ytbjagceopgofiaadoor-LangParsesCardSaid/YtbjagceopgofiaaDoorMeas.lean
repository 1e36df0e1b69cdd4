/-
  The program's measure: the depth, and whether no list is too long.
-/
import Derived.Test.YtbjagceopgofiaaDoorForm
import Derived.WalkLawsBesides
namespace Go.Proofs.YtbjagceopgofiaaDoor
open Go.RowKit

def RelMeas (W : World) (b0 : Bool) (xs : List E) (v2 v3 v : Value) (g : Nat) (wr : World) : Prop :=
  ∃ i, i + g = xs.length ∧ v = .int .i64 i ∧ v2 = .int .i64 (depthL (xs.take i)) ∧ v3 = .bool (b0 && shortL (xs.take i)) ∧ Below W.heap.size W wr
theorem ret_two {a b : Int} {c d : Bool} (h : a = b) (h2 : c = d) : Ending.returned (.tuple #[.int .i64 a, .bool c]) = .returned (.tuple #[.int .i64 b, .bool d]) := by rw [h, h2]
theorem depthL_mem : ∀ (l : List E) (x : E), x ∈ l → depthE x ≤ depthL l
  | y :: r, x, hm => by
    unfold depthL
    rcases List.mem_cons.1 hm with rfl | hm
    · exact Nat.le_max_left _ _
    · exact Nat.le_trans (depthL_mem r x hm) (Nat.le_max_right _ _)

set_option maxHeartbeats 4000000 in
set_option maxRecDepth 100000 in
theorem measure_c : ∀ (x : E) (cs : List Value) (F : Nat → Prop) (w : World), ExprC w F x cs → sizeE x ≤ 1000000000 → entE x ≤ 9223372036854775807 →
    Calls Tryd.prog 34 #[.agg cs.toArray] w fun e w' => e = .returned (.tuple #[.int .i64 (depthE x), .bool (shortE x)]) ∧ Below w.heap.size w w' := by
  refine expr_ind_ ?_
  intro k nm n ls xs ih cs F w h hs he
  unfold ExprC at h
  obtain ⟨la, lc, aa, ac, rfl, _, ha⟩ := h
  have hs' : 1 + sizeL xs ≤ 1000000000 := by unfold sizeE at hs; exact hs
  have he' : ls.length + entL xs ≤ 9223372036854775807 := by unfold entE at he; exact he
  have hlen : xs.length ≤ 1000000000 := by have := len_sizeL xs; omega
  have HIH := Lib.hid ih
  have HA : Hid (ArgsAt w F aa xs) := ha
  have HS : Hid (shortE (.mk k nm n ls xs) = (decide (ls.length ≤ 4096) && shortL xs)) := by show _ = _; conv => lhs; unfold shortE
  have HD : Hid (depthE (.mk k nm n ls xs) = depthL xs + 1) := by show _ = _; conv => lhs; unfold depthE
  have HSM : Hid (∀ i, (h : i < xs.length) → sizeE xs[i] ≤ 1000000000) := fun i h => by have := sizeL_mem xs _ (List.getElem_mem h); omega
  have HEM : Hid (∀ i, (h : i < xs.length) → entE xs[i] ≤ 9223372036854775807) := fun i h => by have := entL_mem xs _ (List.getElem_mem h); omega
  have hdl : depthL xs ≤ 1000000000 := by have := depths_size xs; omega
  have HDM : Hid (∀ i, (h : i < xs.length) → depthE xs[i] ≤ 1000000000) := fun i h => by have := depthL_mem xs _ (List.getElem_mem h); omega
  have HDT : Hid (∀ i, depthL (xs.take i) ≤ 1000000000) := fun i => by have h1 := depths_size (xs.take i); have h2 := sizeL_take xs i; omega
  have hll : ls.length ≤ 9223372036854775807 := by omega
  clear ih ha hs he hs' he'
  go_enter Tryd.func34, Tryd.ntmps34
  go_wp2_with fail
  have hb0 : Below w.heap.size w (w.alloc (.cells #[.int .i64 k, .string ⟨nm.toArray⟩, .int .i64 n, .slice la ls.length lc, .slice aa xs.length ac] 26)) := (Below.refl _ _).alloc (Nat.le_refl _) _
  have HA2 := Lib.hid (HA.out.grow hb0)
  have HB2 := Lib.hid hb0
  clear hb0 HA
  generalize w.alloc (.cells #[.int .i64 k, .string ⟨nm.toArray⟩, .int .i64 n, .slice la ls.length lc, .slice aa xs.length ac] 26) = W at *
  go_loopg [2, 3, 15] xs.length (fun g v2 v3 v wr => RelMeas W (decide (ls.length ≤ 4096)) xs v2 v3 v g wr)
  case atStart => exact ⟨0, by omega, rfl, by simp [depthL], by simp [shortL]; omega, Below.refl _ _⟩
  case round =>
    obtain ⟨i, hig, rfl, rfl, rfl, hbr⟩ := hrel
    have HBR := Lib.hid hbr
    have HAR := Lib.hid (HA2.out.grow hbr)
    clear hbr HA2
    by_cases hi : i < xs.length
    · obtain ⟨b, o, k', nm', n', la', ll', lc', ab', al', ac', rfl, hrg, hec⟩ := HAR.out.at_ hi
      have HSZ : Hid ((decide (ls.length ≤ 4096) && shortL (xs.take (i + 1))) = ((decide (ls.length ≤ 4096) && shortL (xs.take i)) && shortE xs[i])) := by show _ = _; rw [take_snoc (List.getElem?_eq_getElem hi), shortL_snoc, Bool.and_assoc]
      have HDZ : Hid (depthL (xs.take (i + 1)) = Nat.max (depthL (xs.take i)) (depthE xs[i])) := by show _ = _; rw [take_snoc (List.getElem?_eq_getElem hi), depthL_snoc]
      have HRG := Lib.hid hrg
      have HC : Hid (∀ w', Below wr.heap.size wr w' → Calls Tryd.prog 34 #[.agg #[.int .i64 k', .string nm', .int .i64 n', .slice la' ll' lc', .slice ab' al' ac']] w' fun e w'' => e = .returned (.tuple #[.int .i64 (depthE xs[i]), .bool (shortE xs[i])]) ∧ Below w'.heap.size w' w'') :=
        fun w' hb' => HIH.out xs[i] (List.getElem_mem hi) _ F w' (hec.grow hb') (HSM.out i hi) (HEM.out i hi)
      have hz1 := HDM.out i hi
      have hz2 := HDT.out i
      clear hrg hec HAR
      generalize shortE xs[i] = z at *
      generalize depthE xs[i] = dz at *
      generalize depthL (xs.take i) = dy at *
      generalize (decide (ls.length ≤ 4096) && shortL (xs.take i)) = bz at *
      have hi0 : (0 : Int) ≤ (i : Int) := by omega
      have hi1 : (i : Int) < (xs.length : Int) := by omega
      have hba : Below wr.heap.size wr (wr.alloc (.cells #[.int .i64 k', .string nm', .int .i64 n', .slice la' ll' lc', .slice ab' al' ac'] 26)) := (Below.refl _ _).alloc (Nat.le_refl _) _
      have HBA := Lib.hid hba
      clear hba
      go_wp2_with (first
        | (refine wpList_load_mid rfl 26 (.tmp 17) rfl b (o + i * 5) rfl [.int .i64 k', .string nm', .int .i64 n', .slice la' ll' lc', .slice ab' al' ac'] _ HRG.out Tryd.underlying26 rfl exprSize ?_)
        | (refine wpList_store_new rfl 26 (.tmp 5) (.tmp 18) rfl wr _ #[.int .i64 k', .string nm', .int .i64 n', .slice la' ll' lc', .slice ab' al' ac'] rfl rfl exprSize rfl (by simp [Value.oneCell']) ?_))
      refine (HC.out _ HBA.out).mono ?_
      rintro e w5 ⟨rfl, hb5⟩
      have HB5 := Lib.hid (HBR.out.trans ((HBA.out.trans (hb5.mono HBA.out.size)).mono HBR.out.size))
      clear hb5 HC HBR HBA
      go_wp2_with fail
      all_goals
        go_roundg (xs.length - (i + 1))
        case measure => omega
        case rel => exact ⟨i + 1, by omega, by simp, by rw [HDZ.out]; simp [Nat.max_def, Int.max_def]; split <;> rfl, by rw [HSZ.out]; simp [*], HB5.out⟩
    · have hz2 := HDT.out i
      go_wp2_with fail
      go_ret2
      refine ⟨ret_two ?_ ?_, HB2.out.trans (HBR.out.mono HB2.out.size)⟩
      · rw [HD.out, List.take_of_length_le (by omega)]
        simp
      · rw [HS.out, List.take_of_length_le (by omega)]
#print axioms measure_c
end Go.Proofs.YtbjagceopgofiaaDoor
