/-
  The program's form and measure.
-/
import Derived.Test.YtbjagceopgofiaaDoorNode
namespace Go.Proofs.YtbjagceopgofiaaDoor
open Go.RowKit

mutual
def entE : E → Nat
  | .mk _ _ _ ls xs => ls.length + entL xs
def entL : List E → Nat
  | [] => 0
  | x :: r => entE x + entL r
end
mutual
def formE : E → Bool
  | .mk k nm n ls xs => nodeB (.mk k nm n ls xs) && formL xs
def formL : List E → Bool
  | [] => true
  | x :: r => formE x && formL r
end
mutual
def depthE : E → Nat
  | .mk _ _ _ _ xs => depthL xs + 1
def depthL : List E → Nat
  | [] => 0
  | x :: r => Nat.max (depthE x) (depthL r)
end
mutual
/-- No list is too long. -/
def shortE : E → Bool
  | .mk _ _ _ ls xs => decide (ls.length ≤ 4096) && shortL xs
def shortL : List E → Bool
  | [] => true
  | x :: r => shortE x && shortL r
end
theorem formL_snoc : ∀ (l : List E) (x : E), formL (l ++ [x]) = (formL l && formE x)
  | [], x => by simp [formL]
  | y :: r, x => by rw [List.cons_append]; unfold formL; rw [formL_snoc r x, Bool.and_assoc]
theorem shortL_snoc : ∀ (l : List E) (x : E), shortL (l ++ [x]) = (shortL l && shortE x)
  | [], x => by simp [shortL]
  | y :: r, x => by rw [List.cons_append]; unfold shortL; rw [shortL_snoc r x, Bool.and_assoc]
theorem depthL_snoc : ∀ (l : List E) (x : E), depthL (l ++ [x]) = Nat.max (depthL l) (depthE x)
  | [], x => by simp [depthL]
  | y :: r, x => by rw [List.cons_append]; unfold depthL; rw [depthL_snoc r x]; simp only [Nat.max_def]; repeat (first | split | omega)
theorem formL_mem : ∀ (l : List E) (x : E), x ∈ l → formE x = false → formL l = false
  | y :: r, x, hm, hf => by
    unfold formL
    rcases List.mem_cons.1 hm with rfl | hm
    · rw [hf]; rfl
    · rw [formL_mem r x hm hf, Bool.and_false]
theorem sizeL_mem : ∀ (l : List E) (x : E), x ∈ l → sizeE x ≤ sizeL l
  | y :: r, x, hm => by
    unfold sizeL
    rcases List.mem_cons.1 hm with rfl | hm
    · omega
    · have := sizeL_mem r x hm; omega
theorem entL_mem : ∀ (l : List E) (x : E), x ∈ l → entE x ≤ entL l
  | y :: r, x, hm => by
    unfold entL
    rcases List.mem_cons.1 hm with rfl | hm
    · omega
    · have := entL_mem r x hm; omega
theorem len_sizeL : ∀ l : List E, l.length ≤ sizeL l
  | [] => by simp
  | y :: r => by
    have := len_sizeL r
    cases y
    unfold sizeL sizeE
    simp
    omega
mutual
theorem depth_size : ∀ x : E, depthE x ≤ sizeE x
  | .mk k nm n ls xs => by
    unfold depthE sizeE
    have := depths_size xs
    omega
theorem depths_size : ∀ l : List E, depthL l ≤ sizeL l
  | [] => by simp [depthL]
  | x :: r => by
    unfold depthL sizeL
    have h1 := depth_size x
    have h2 := depths_size r
    simp only [Nat.max_def]
    split <;> omega
end

def RelForm (W : World) (xs : List E) (v : Value) (g : Nat) (wr : World) : Prop :=
  ∃ i, i + g = xs.length ∧ v = .int .i64 i ∧ formL (xs.take i) = true ∧ Below W.heap.size W wr

set_option maxHeartbeats 4000000 in
set_option maxRecDepth 100000 in
theorem form_c : ∀ (x : E) (cs : List Value) (F : Nat → Prop) (w : World), ExprC w F x cs → sizeE x ≤ 1000000000 → entE x ≤ 9223372036854775807 →
    Calls Tryd.prog 33 #[.agg cs.toArray] w fun e w' => e = .returned (.bool (formE x)) ∧ Below w.heap.size w w' := by
  refine expr_ind_ ?_
  intro k nm n ls xs ih cs F w h hs he
  have hx := h
  unfold ExprC at h
  obtain ⟨la, lc, aa, ac, rfl, _, ha⟩ := h
  have hs' : 1 + sizeL xs ≤ 1000000000 := by unfold sizeE at hs; exact hs
  have he' : ls.length + entL xs ≤ 9223372036854775807 := by unfold entE at he; exact he
  have hlen : xs.length ≤ 1000000000 := by have := len_sizeL xs; omega
  have HIH := Lib.hid ih
  have HA : Hid (ArgsAt w F aa xs) := ha
  have HX := Lib.hid hx
  have HS : Hid (formE (.mk k nm n ls xs) = (nodeB (.mk k nm n ls xs) && formL xs)) := by show _ = _; conv => lhs; unfold formE
  have HFM : Hid (∀ i, (h : i < xs.length) → formE xs[i] = false → formL xs = false) := fun i h hf => formL_mem xs _ (List.getElem_mem h) hf
  have HSM : Hid (∀ i, (h : i < xs.length) → sizeE xs[i] ≤ 1000000000) := fun i h => by have := sizeL_mem xs _ (List.getElem_mem h); omega
  have HEM : Hid (∀ i, (h : i < xs.length) → entE xs[i] ≤ 9223372036854775807) := fun i h => by have := entL_mem xs _ (List.getElem_mem h); omega
  have hll : ls.length ≤ 9223372036854775807 := by omega
  clear ih ha hs he hx hs' he'
  go_enter Tryd.func33, Tryd.ntmps33
  go_wp2_with fail
  have hb0 : Below w.heap.size w (w.alloc (.cells #[.int .i64 k, .string ⟨nm.toArray⟩, .int .i64 n, .slice la ls.length lc, .slice aa xs.length ac] 26)) := (Below.refl _ _).alloc (Nat.le_refl _) _
  have HX1 := Lib.hid (HX.out.grow hb0)
  have HA1 := Lib.hid (HA.out.grow hb0)
  have HB0 := Lib.hid hb0
  have c4 : (w.alloc (.cells #[.int .i64 k, .string ⟨nm.toArray⟩, .int .i64 n, .slice la ls.length lc, .slice aa xs.length ac] 26)).cell? ⟨w.heap.size, 4, none⟩ = some (.slice aa xs.length ac) := World.cell?_alloc_new _ _ _ 4
  have hwl : w.heap.size < (w.alloc (.cells #[.int .i64 k, .string ⟨nm.toArray⟩, .int .i64 n, .slice la ls.length lc, .slice aa xs.length ac] 26)).heap.size := by rw [World.size_alloc]; omega
  clear hb0 HA HX
  generalize w.alloc (.cells #[.int .i64 k, .string ⟨nm.toArray⟩, .int .i64 n, .slice la ls.length lc, .slice aa xs.length ac] 26) = W1 at *
  refine (node_c _ _ F _ HX1.out hll hlen).mono ?_
  rintro e W ⟨rfl, hbn⟩
  have HA2 := Lib.hid (HA1.out.grow hbn)
  have HB2 := Lib.hid (HB0.out.trans (hbn.mono HB0.out.size))
  have d4 : W.cell? ⟨w.heap.size, 4, none⟩ = some (.slice aa xs.length ac) := (hbn.cell (p := ⟨w.heap.size, 4, none⟩) hwl).trans c4
  clear hbn HA1 HB0 HX1 c4 hwl
  cases hnb : nodeB (.mk k nm n ls xs)
  · go_wp2_with fail
    go_ret
    exact ⟨ret_bool (by rw [HS.out, hnb]; rfl), HB2.out⟩
  · go_wp2_with fail
    go_loopg [11] xs.length (fun g v wr => RelForm W xs v g wr)
    case atStart => exact ⟨0, by omega, rfl, by simp [formL], Below.refl _ _⟩
    case round =>
      obtain ⟨i, hig, rfl, hfl, hbr⟩ := hrel
      have HFL := Lib.hid hfl
      have HBR := Lib.hid hbr
      have HAR := Lib.hid (HA2.out.grow hbr)
      clear hbr HA2 hfl
      by_cases hi : i < xs.length
      · obtain ⟨b, o, k', nm', n', la', ll', lc', ab', al', ac', rfl, hrg, hec⟩ := HAR.out.at_ hi
        have HSZ : Hid (formL (xs.take (i + 1)) = (formL (xs.take i) && formE xs[i])) := by show _ = _; rw [take_snoc (List.getElem?_eq_getElem hi), formL_snoc]
        have HRG := Lib.hid hrg
        have HFM2 := Lib.hid (HFM.out i hi)
        have HC : Hid (∀ w', Below wr.heap.size wr w' → Calls Tryd.prog 33 #[.agg #[.int .i64 k', .string nm', .int .i64 n', .slice la' ll' lc', .slice ab' al' ac']] w' fun e w'' => e = .returned (.bool (formE xs[i])) ∧ Below w'.heap.size w' w'') :=
          fun w' hb' => HIH.out xs[i] (List.getElem_mem hi) _ F w' (hec.grow hb') (HSM.out i hi) (HEM.out i hi)
        clear hrg hec HAR
        generalize formE xs[i] = z at *
        have hi0 : (0 : Int) ≤ (i : Int) := by omega
        have hi1 : (i : Int) < (xs.length : Int) := by omega
        have hba : Below wr.heap.size wr (wr.alloc (.cells #[.int .i64 k', .string nm', .int .i64 n', .slice la' ll' lc', .slice ab' al' ac'] 26)) := (Below.refl _ _).alloc (Nat.le_refl _) _
        have HBA := Lib.hid hba
        clear hba
        cases hz : z
        · subst hz
          go_wp2_with (first
            | (refine wpList_load_mid rfl 26 (.tmp 13) rfl b (o + i * 5) rfl [.int .i64 k', .string nm', .int .i64 n', .slice la' ll' lc', .slice ab' al' ac'] _ HRG.out Tryd.underlying26 rfl exprSize ?_)
            | (refine wpList_store_new rfl 26 (.tmp 4) (.tmp 14) rfl wr _ #[.int .i64 k', .string nm', .int .i64 n', .slice la' ll' lc', .slice ab' al' ac'] rfl rfl exprSize rfl (by simp [Value.oneCell']) ?_))
          refine (HC.out _ HBA.out).mono ?_
          rintro e w5 ⟨rfl, hb5⟩
          have HB5 := Lib.hid (HBR.out.trans ((HBA.out.trans (hb5.mono HBA.out.size)).mono HBR.out.size))
          clear hb5 HC HBR HBA
          go_wp2_with fail
          go_ret
          exact ⟨ret_bool (by rw [HS.out, HFM2.out trivial, Bool.and_false]), HB2.out.trans (HB5.out.mono HB2.out.size)⟩
        · subst hz
          go_wp2_with (first
            | (refine wpList_load_mid rfl 26 (.tmp 13) rfl b (o + i * 5) rfl [.int .i64 k', .string nm', .int .i64 n', .slice la' ll' lc', .slice ab' al' ac'] _ HRG.out Tryd.underlying26 rfl exprSize ?_)
            | (refine wpList_store_new rfl 26 (.tmp 4) (.tmp 14) rfl wr _ #[.int .i64 k', .string nm', .int .i64 n', .slice la' ll' lc', .slice ab' al' ac'] rfl rfl exprSize rfl (by simp [Value.oneCell']) ?_))
          refine (HC.out _ HBA.out).mono ?_
          rintro e w5 ⟨rfl, hb5⟩
          have HB5 := Lib.hid (HBR.out.trans ((HBA.out.trans (hb5.mono HBA.out.size)).mono HBR.out.size))
          clear hb5 HC HBR HBA
          go_wp2_with fail
          go_roundg (xs.length - (i + 1))
          case measure => omega
          case rel => exact ⟨i + 1, by omega, by simp, by rw [HSZ.out, HFL.out]; rfl, HB5.out⟩
      · go_wp2_with fail
        go_ret
        refine ⟨ret_bool ?_, HB2.out.trans (HBR.out.mono HB2.out.size)⟩
        have := HFL.out
        rw [List.take_of_length_le (by omega)] at this
        rw [HS.out, hnb, this]
        rfl
#print axioms form_c
end Go.Proofs.YtbjagceopgofiaaDoor
