/-
  codewrightlaw33.DeriveTexts returns true: the program's text of a derivation is the reference's. The package variables that are read (the names of the rules, the powers of ten) hold what the program's text lays.
-/
import Derived.Test.YtgnggmknbajmcaaDoorText
import Derived.Test.YtgnggmknbajmcaaDoorOpen
import Derived.LaidSub
namespace Go.Proofs.YtgnggmknbajmcaaDoor
open Go.RowKit

def RelL (w : World) (ds : List StepD) (i : Value) (wr : World) : Prop :=
  ∃ k : Nat, k ≤ ds.length ∧ i = .int .i64 k ∧ (∀ j, j < k → (ds.getD j ⟨0, 0, 0, 0, 0, 0, []⟩).frm.length ≤ 100) ∧ wr = w

set_option maxHeartbeats 4000000 in
set_option maxRecDepth 100000 in
theorem law_any (A : Option Addr) (c : Nat) (ds : List StepD) (w : World) (hd : StepsAt w w.heap.size A ds) (hl : ds.length ≤ maxLen) (hok : ∀ d ∈ ds, d.ok) (ht : Pows w) (hnm : NamesAt w) :
    Calls Tryd.prog 3 #[.slice A ds.length c] w fun e w' => e = .returned (.bool true) ∧ Below w.heap.size w w' := by
  unfold maxLen at hl
  by_cases h40 : 40 < ds.length
  · clear hd ht hnm hok
    go_enter Tryd.func3, Tryd.ntmps3
    go_wp2_with fail
    go_ret
    exact ⟨rfl, Below.refl _ _⟩
  · have HD := Lib.hid hd
    have HOK := Lib.hid hok
    have HT := Lib.hid ht
    have HN := Lib.hid hnm
    clear hd hok ht hnm
    go_enter Tryd.func3, Tryd.ntmps3
    go_wp2_with fail
    go_loopw [3] (fun i wr => RelL w ds i wr) (fun i _ => ds.length - (intOf i).toNat)
    case atStart => exact ⟨0, Nat.zero_le _, rfl, by omega, rfl⟩
    case round =>
      obtain ⟨k, hk, rfl, hall, rfl⟩ := hrel
      by_cases hlt : k < ds.length
      · obtain ⟨b, o, rfl, hs⟩ := HD.out (by omega)
        obtain ⟨hbl, hok, c3, c8, c9, c10, c11, c12, c13, c14, c15, c16, c17, c18, c19, c20, c21, c22, ga, fa, gc, fc, hr, h1, hi⟩ := hs k ds[k] (List.getElem?_eq_getElem hlt)
        have c7 := hr 7 _ rfl
        have hlf := hok.2.2.2.2.2.2.1
        have HALL := Lib.hid hall
        have HE : Hid (ds.getD k ⟨0, 0, 0, 0, 0, 0, []⟩ = ds[k]) := by
          show _ = _
          rw [List.getD_eq_getElem?_getD, List.getElem?_eq_getElem hlt]; rfl
        clear hs hok hr h1 hi hall
        generalize ds[k] = D at *
        by_cases h100 : 100 < D.frm.length
        · go_wp2_with fail
          go_ret
          exact ⟨rfl, Below.refl _ _⟩
        · go_wp2_with fail
          go_roundw
          case rel =>
            refine ⟨k + 1, by omega, by go_num, fun j hj => ?_, rfl⟩
            by_cases hjk : j = k
            · subst hjk
              rw [HE.out]; omega
            · exact HALL.out j (by omega)
          case measure => simp [intOf]; omega
      · have hf : ∀ d ∈ ds, d.ok ∧ d.frm.length ≤ 100 := fun d hd => ⟨HOK.out d hd, by
          obtain ⟨j, hj, rfl⟩ := List.getElem_of_mem hd
          have := hall j (by omega)
          rw [List.getD_eq_getElem?_getD, List.getElem?_eq_getElem hj] at this
          exact this⟩
        have HF := Lib.hid hf
        clear hf hall
        go_wp2_with fail
        refine (text_any A c ds wr HD.out (by omega) HF.out HT.out HN.out).mono ?_
        rintro e w1 ⟨rfl, hb1⟩
        have HB1 := Lib.hid hb1
        clear hb1
        go_wp2_with fail
        refine (refText_any A c ds w1 (fun hz => ?_) (by omega) HF.out).mono ?_
        · obtain ⟨b, o, e, hs⟩ := HD.out hz
          exact ⟨b, o, e, fun i d hd => ((hs i d hd).keep HB1.out).more HB1.out.size⟩
        rintro e w2 ⟨rfl, hb2⟩
        have HB2 := Lib.hid hb2
        clear hb2
        go_wp2_with fail
        go_ret
        exact ⟨by simp, HB1.out.trans (HB2.out.mono HB1.out.size)⟩

/-! ### The listed variables -/
section
variable {H : Type} {enc : TypeId × Value → H} {P : Program}
theorem strs_of_tab {w : World} {base : Nat} {sp : Nat → Bool} {held : Bool} {fuel n : Nat} {t e : TypeId} {cs : List Value} {ls : List (List UInt8)} {p : List MemPlace}
    (ht : P.underlying t = some (.array n e)) (he : P.underlying e = some .string) (hce : P.cellsOf e = 1) (hct : P.cellsOf t = n)
    (h : DataW.trod enc P w base sp held fuel t cs = some (.agg (ls.map fun l => .lit (.string l)), p)) : cs = ls.map fun l => Value.string ⟨l.toArray⟩ := by
  cases fuel with
  | zero => simp [DataW.trod] at h
  | succ fuel =>
    simp only [DataW.trod, ht, hce, hct, Nat.mul_one] at h
    split at h
    · rename_i hl
      obtain ⟨xs, hm, hx⟩ := Option.map_eq_some_iff.1 h
      have hxs : xs.map (·.1) = ls.map fun l => (DataW.lit (.string l) : DataW H) := by
        have := congrArg Prod.fst hx
        simpa using this
      have hxl : xs.length = n := by simpa using Lib.mapM_length hm
      have hzl : ls.length = n := by
        have := congrArg List.length hxs
        simp at this
        omega
      apply List.ext_getElem?
      intro i
      by_cases hi : i < n
      · obtain ⟨b, hb, hf⟩ := Lib.mapM_at hm i i (by simp [hi])
        obtain ⟨s, hc, rfl, _⟩ := DataW.trod_string he hf
        have h1 : cs[i]? = some (.string s) := by
          have := congrArg (·[0]?) hc
          simpa [List.getElem?_take, List.getElem?_drop] using this
        have h2 : (xs.map (·.1))[i]? = some (DataW.lit (.string s.data.toList) : DataW H) := by simp [hb]
        rw [hxs] at h2
        simp only [List.getElem?_map, Option.map_eq_some_iff, DataW.lit.injEq, Lit.string.injEq] at h2
        obtain ⟨l', hl', hs⟩ := h2
        rw [h1, List.getElem?_map, hl', hs]
        simp
      · rw [List.getElem?_eq_none (by omega), List.getElem?_eq_none (by simp; omega)]
    · cases h
end
#print axioms law_any
end Go.Proofs.YtgnggmknbajmcaaDoor
