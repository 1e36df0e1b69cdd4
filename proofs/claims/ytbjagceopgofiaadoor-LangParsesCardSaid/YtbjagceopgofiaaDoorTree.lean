/-
  Functions that go through an expression: Size (the program's and the reference's).
-/
import Derived.Test.YtbjagceopgofiaaDoorParsH
namespace Go.Proofs.YtbjagceopgofiaaDoor
open Go.RowKit

mutual
theorem expr_ind_ {P : E → Prop} (h : ∀ k nm n ls xs, (∀ a, a ∈ xs → P a) → P (.mk k nm n ls xs)) : ∀ x, P x
  | .mk k nm n ls xs => h k nm n ls xs (exprs_ind_ h xs)
theorem exprs_ind_ {P : E → Prop} (h : ∀ k nm n ls xs, (∀ a, a ∈ xs → P a) → P (.mk k nm n ls xs)) : ∀ (xs : List E) (a : E), a ∈ xs → P a
  | [], a, ha => by cases ha
  | x :: r, a, ha => (List.mem_cons.1 ha).elim (fun e => e ▸ expr_ind_ h x) (fun h' => exprs_ind_ h r a h')
end
mutual
def sizeE : E → Nat
  | .mk _ _ _ _ xs => 1 + sizeL xs
def sizeL : List E → Nat
  | [] => 0
  | x :: r => sizeE x + sizeL r
end
theorem sizeL_snoc : ∀ (l : List E) (x : E), sizeL (l ++ [x]) = sizeL l + sizeE x
  | [], x => by simp [sizeL]
  | y :: r, x => by
    rw [List.cons_append]
    unfold sizeL
    rw [sizeL_snoc r x]
    omega
theorem take_snoc {α : Type} {l : List α} {i : Nat} {x : α} (h : l[i]? = some x) : l.take (i + 1) = l.take i ++ [x] := by
  rw [List.take_add_one, h]
  rfl
theorem sizeL_take (l : List E) (i : Nat) : sizeL (l.take i) ≤ sizeL l := by
  induction l generalizing i with
  | nil => simp
  | cons x r ih =>
    cases i with
    | zero => simp [sizeL]
    | succ i =>
      rw [List.take_succ_cons]
      unfold sizeL
      have := ih i
      omega
theorem ExprC.grow {w w' : World} {F : Nat → Prop} {x : E} {cs : List Value} (h : ExprC w F x cs) (hb : Below w.heap.size w w') : ExprC w' F x cs := ExprC.mono (fun b hF hlt => ⟨hF, hb.block b hlt⟩) x cs h
theorem ExprsC.grow {w w' : World} {F : Nat → Prop} {b o : Nat} {xs : List E} (h : ExprsC w F b o xs) (hb : Below w.heap.size w w') (hl : 0 < xs.length) : ExprsC w' F b o xs := by
  refine ExprsC.mono (fun b hF hlt => ⟨hF, hb.block b hlt⟩) (hb.block b ?_) xs o h
  cases xs with
  | nil => simp at hl
  | cons x r =>
    unfold ExprsC at h
    obtain ⟨⟨cs, h1, h2⟩, _⟩ := h
    exact range_lt h1 (by rw [h2.len]; omega)
theorem ExprC.shape {w : World} {F : Nat → Prop} {y : E} {cs : List Value} (h : ExprC w F y cs) : ∃ k nm n la ll lc aa al ac, cs = [.int .i64 k, .string nm, .int .i64 n, .slice la ll lc, .slice aa al ac] := by
  cases y
  unfold ExprC at h
  obtain ⟨la, lc, aa, ac, rfl, _⟩ := h
  exact ⟨_, _, _, _, _, _, _, _, _, rfl⟩
/-- What a walk through the arguments knows of them: element i in memory, in every world that has grown. -/
def ArgsAt (w : World) (F : Nat → Prop) (aa : Option Addr) (xs : List E) : Prop := 0 < xs.length → ∃ b o, aa = some ⟨b, o, none⟩ ∧ F b ∧ ExprsC w F b o xs
theorem ArgsAt.grow {w w' : World} {F : Nat → Prop} {aa : Option Addr} {xs : List E} (h : ArgsAt w F aa xs) (hb : Below w.heap.size w w') : ArgsAt w' F aa xs := fun hz => by
  obtain ⟨b, o, e, hF, hx⟩ := h hz
  exact ⟨b, o, e, hF, hx.grow hb hz⟩
theorem ArgsAt.at_ {w : World} {F : Nat → Prop} {aa : Option Addr} {xs : List E} (h : ArgsAt w F aa xs) {i : Nat} (hi : i < xs.length) :
    ∃ b o k nm n la ll lc ab al ac, aa = some ⟨b, o, none⟩ ∧ w.rangeAt b (o + i * 5) [.int .i64 k, .string nm, .int .i64 n, .slice la ll lc, .slice ab al ac] ∧ ExprC w F xs[i] [.int .i64 k, .string nm, .int .i64 n, .slice la ll lc, .slice ab al ac] := by
  obtain ⟨b, o, e, _, hx⟩ := h (by omega)
  obtain ⟨cs, h1, h2⟩ := ExprsC.at_ xs o i xs[i] hx (List.getElem?_eq_getElem hi)
  obtain ⟨k, nm, n, la, ll, lc, ab, al, ac, rfl⟩ := h2.shape
  exact ⟨b, o, k, nm, n, la, ll, lc, ab, al, ac, e, h1, h2⟩

def RelSize (W : World) (xs : List E) (v3 v9 : Value) (g : Nat) (wr : World) : Prop :=
  ∃ i, i + g = xs.length ∧ v3 = .int .i64 ((1 + sizeL (xs.take i) : Nat) : Int) ∧ v9 = .int .i64 i ∧ Below W.heap.size W wr

set_option maxHeartbeats 4000000 in
set_option maxRecDepth 100000 in
theorem size_c : ∀ (x : E) (cs : List Value) (F : Nat → Prop) (w : World), ExprC w F x cs → sizeE x ≤ 1000000000 →
    Calls Tryd.prog 22 #[.agg cs.toArray] w fun e w' => e = .returned (.int .i64 (sizeE x)) ∧ Below w.heap.size w w' := by
  refine expr_ind_ ?_
  intro k nm n ls xs ih cs F w h hs
  unfold ExprC at h
  obtain ⟨la, lc, aa, ac, rfl, _, ha⟩ := h
  have hs' : 1 + sizeL xs ≤ 1000000000 := by unfold sizeE at hs; exact hs
  have hlen : xs.length ≤ 1000000000 := by
    have : ∀ l : List E, l.length ≤ sizeL l := by
      intro l
      induction l with
      | nil => simp
      | cons y r ih => cases y; unfold sizeL sizeE; simp; omega
    have := this xs
    omega
  have HIH := Lib.hid ih
  have HA : Hid (ArgsAt w F aa xs) := ha
  have HS : Hid (sizeE (.mk k nm n ls xs) = 1 + sizeL xs) := by show _ = _; unfold sizeE; rfl
  clear ih ha hs
  go_enter Tryd.func22, Tryd.ntmps22
  go_wp2_with fail
  have hb0 : Below w.heap.size w (w.alloc (.cells #[.int .i64 k, .string ⟨nm.toArray⟩, .int .i64 n, .slice la ls.length lc, .slice aa xs.length ac] 26)) := (Below.refl _ _).alloc (Nat.le_refl _) _
  have HA1 := Lib.hid (HA.out.grow hb0)
  have HB0 := Lib.hid hb0
  clear hb0 HA
  generalize w.alloc (.cells #[.int .i64 k, .string ⟨nm.toArray⟩, .int .i64 n, .slice la ls.length lc, .slice aa xs.length ac] 26) = W at *
  go_loopg [3, 9] xs.length (fun g v3 v9 wr => RelSize W xs v3 v9 g wr)
  case atStart => exact ⟨0, by omega, by simp [sizeL], rfl, Below.refl _ _⟩
  case round =>
    obtain ⟨i, hig, rfl, rfl, hbr⟩ := hrel
    have HBR := Lib.hid hbr
    have HAR := Lib.hid (HA1.out.grow hbr)
    clear hbr HA1
    by_cases hi : i < xs.length
    · obtain ⟨b, o, k', nm', n', la', ll', lc', ab', al', ac', rfl, hrg, hec⟩ := HAR.out.at_ hi
      have hsz : sizeL (xs.take (i + 1)) = sizeL (xs.take i) + sizeE xs[i] := by rw [take_snoc (List.getElem?_eq_getElem hi), sizeL_snoc]
      have hsl := sizeL_take xs (i + 1)
      have HSZ := Lib.hid hsz
      have HRG := Lib.hid hrg
      have hse : sizeE xs[i] ≤ 1000000000 := by omega
      have hadd : 1 + sizeL (xs.take i) + sizeE xs[i] ≤ 1000000000 := by omega
      have HC : Hid (∀ w', Below wr.heap.size wr w' → Calls Tryd.prog 22 #[.agg #[.int .i64 k', .string nm', .int .i64 n', .slice la' ll' lc', .slice ab' al' ac']] w' fun e w'' => e = .returned (.int .i64 (sizeE xs[i])) ∧ Below w'.heap.size w' w'') :=
        fun w' hb' => HIH.out xs[i] (List.getElem_mem hi) _ F w' (hec.grow hb') hse
      clear hsz hrg hec HAR
      generalize sizeE xs[i] = z at *
      generalize sizeL (xs.take i) = y at *
      have hi0 : (0 : Int) ≤ (i : Int) := by omega
      have hi1 : (i : Int) < (xs.length : Int) := by omega
      go_wp2_with (first
        | (refine wpList_load_mid rfl 26 (.tmp 11) rfl b (o + i * 5) rfl [.int .i64 k', .string nm', .int .i64 n', .slice la' ll' lc', .slice ab' al' ac'] _ HRG.out Tryd.underlying26 rfl exprSize ?_)
        | (refine wpList_store_new rfl 26 (.tmp 5) (.tmp 12) rfl wr _ #[.int .i64 k', .string nm', .int .i64 n', .slice la' ll' lc', .slice ab' al' ac'] rfl rfl exprSize rfl (by simp [Value.oneCell']) ?_))
      have hba : Below wr.heap.size wr (wr.alloc (.cells #[.int .i64 k', .string nm', .int .i64 n', .slice la' ll' lc', .slice ab' al' ac'] 26)) := (Below.refl _ _).alloc (Nat.le_refl _) _
      refine (HC.out _ hba).mono ?_
      rintro e w5 ⟨rfl, hb5⟩
      have HB5 := Lib.hid (HBR.out.trans ((hba.trans (hb5.mono hba.size)).mono HBR.out.size))
      clear hba hb5 HC HBR
      go_wp2_with fail
      go_roundg (xs.length - (i + 1))
      case measure => omega
      case rel => exact ⟨i + 1, by omega, by rw [HSZ.out]; simp; omega, by simp, HB5.out⟩
    · go_wp2_with fail
      go_ret
      refine ⟨ret_int ?_, HB0.out.trans (HBR.out.mono HB0.out.size)⟩
      rw [HS.out, List.take_of_length_le (by omega)]
#print axioms size_c
end Go.Proofs.YtbjagceopgofiaaDoor
