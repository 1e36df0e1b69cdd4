/-
  The program's form test: isNumber, isName, node, form.
-/
import Derived.Test.YtbjagceopgofiaaDoorTree
import Derived.Test.YtbjagceopgofiaaDoorLexC
namespace Go.Proofs.YtbjagceopgofiaaDoor
open Go.RowKit

def litB (n : Int) : Bool := decide (0 ≤ n ∧ n ≤ 9999999)
def nameB (l : List UInt8) : Bool := decide (l ≠ [] ∧ l.length ≤ 16 ∧ (∀ c, l[0]? = some c → isLet c = true) ∧ runEnd inNm l 0 = l.length)
def nodeB : E → Bool
  | .mk k nm n ls xs => ls.all litB && (if k = 1 then litB n && nm.isEmpty && ls.isEmpty && xs.isEmpty else if k = 2 then decide (n = 0) && nm.isEmpty && xs.isEmpty
      else if k = 3 then decide (n = 0) && nameB nm && ls.isEmpty else if k = 4 then decide (n = 0) && nameB nm && ls.isEmpty && xs.isEmpty else false)

set_option maxHeartbeats 1000000 in
theorem isNumber_c (n : Int) (w : World) : Calls Tryd.prog 71 #[.int .i64 n] w fun e w' => e = .returned (.bool (litB n)) ∧ w = w' := by
  by_cases h0 : 0 ≤ n
  · go_enter Tryd.func71, Tryd.ntmps71
    go_wp2_with fail
    go_ret
    exact ⟨ret_bool (by simp [litB, h0]), rfl⟩
  · go_enter Tryd.func71, Tryd.ntmps71
    go_wp2_with fail
    go_ret
    exact ⟨ret_bool (by simp [litB]; omega), rfl⟩

theorem list_nil_iff (s : ByteArray) : s.toList = [] ↔ s.size = 0 := by
  rw [ByteArray.toList_eq, ← List.length_eq_zero_iff, len_data]
set_option maxHeartbeats 1000000 in
theorem isName_c (s : ByteArray) (w : World) : Calls Tryd.prog 72 #[.string s] w fun e w' => e = .returned (.bool (nameB s.data.toList)) ∧ w = w' := by
  have hlen := len_data s
  by_cases h0 : s.size = 0
  · have HN : Hid (nameB s.data.toList = false) := by
      show _ = _
      unfold nameB
      rw [decide_eq_false_iff_not]
      intro h
      exact h.1 (List.length_eq_zero_iff.1 (by omega))
    have he : s.toList = [] := (list_nil_iff s).2 h0
    clear hlen h0
    go_enter Tryd.func72, Tryd.ntmps72
    go_wp2_with fail
    go_ret
    exact ⟨ret_bool HN.out.symm, rfl⟩
  · have he : ¬ s.toList = [] := fun h => h0 ((list_nil_iff s).1 h)
    by_cases h16 : 16 < s.size
    · have HN : Hid (nameB s.data.toList = false) := by
        show _ = _
        unfold nameB
        rw [decide_eq_false_iff_not]
        intro h
        omega
      clear hlen h0
      go_enter Tryd.func72, Tryd.ntmps72
      go_wp2_with fail
      go_ret
      exact ⟨ret_bool HN.out.symm, rfl⟩
    · have hp : 0 < s.size := by omega
      have hb := byte_at s 0 hp
      cases hl : isLet s[0]
      · have HN : Hid (nameB s.data.toList = false) := by
          show _ = _
          unfold nameB
          rw [decide_eq_false_iff_not]
          intro h
          have := h.2.2.1 _ hb
          rw [hl] at this
          cases this
        clear hlen h0 hb
        go_enter Tryd.func72, Tryd.ntmps72
        go_wp2_with (go_at_call 47; refine (isLetter_c _ _).mono ?_; rintro e w' ⟨rfl, rfl⟩)
        go_ret
        exact ⟨ret_bool HN.out.symm, rfl⟩
      · have HN : Hid (nameB s.data.toList = decide (runEnd inNm s.data.toList 0 = s.size)) := by
          show _ = _
          unfold nameB
          rw [decide_eq_decide]
          constructor
          · intro h
            rw [h.2.2.2, hlen]
          · intro h
            refine ⟨fun e => h0 (by rw [← hlen, e]; rfl), by omega, fun c hc => ?_, by rw [h, hlen]⟩
            rw [hb] at hc
            rw [← Option.some.inj hc]
            exact hl
        clear hlen h0 hb
        go_enter Tryd.func72, Tryd.ntmps72
        go_wp2_with (first
          | (go_at_call 47; refine (isLetter_c _ _).mono ?_; rintro e w' ⟨rfl, rfl⟩)
          | (go_at_call 48; refine (while_in s 0 _ (by omega) (by omega)).mono ?_; rintro e w' ⟨rfl, rfl⟩))
        go_ret
        exact ⟨ret_bool (by rw [HN.out, Bool.eq_iff_iff]; simp [he]; omega), rfl⟩

theorem take_all {l : List Int} {p : Int → Bool} {i : Nat} (h : i < l.length) : (l.take (i + 1)).all p = ((l.take i).all p && p (l.getD i 0)) := by
  rw [take_snoc (List.getElem?_eq_getElem h), List.all_append]
  simp [List.getD, List.getElem?_eq_getElem h]
theorem all_false {l : List Int} {p : Int → Bool} {i : Nat} (h : i < l.length) (hp : p (l.getD i 0) = false) : l.all p = false := by
  rw [List.all_eq_false]
  refine ⟨l[i], List.getElem_mem h, ?_⟩
  simpa [List.getD, List.getElem?_eq_getElem h] using hp
def listLen : E → Nat | .mk _ _ _ ls _ => ls.length
def argsLen : E → Nat | .mk _ _ _ _ xs => xs.length
def RelList2 (ls : List Int) (v8 : Value) (g : Nat) : Prop := ∃ i, i + g = ls.length ∧ v8 = .int .i64 i ∧ (ls.take i).all litB = true

set_option maxHeartbeats 4000000 in
set_option maxRecDepth 100000 in
theorem node_c (x : E) (cs : List Value) (F : Nat → Prop) (w : World) (h : ExprC w F x cs) (hl : listLen x ≤ 9223372036854775807) (hn : argsLen x ≤ 1000000000) : Calls Tryd.prog 61 #[.agg cs.toArray] w fun e w' => e = .returned (.bool (nodeB x)) ∧ Below w.heap.size w w' := by
  cases x with
  | mk k nm n ls xs =>
  unfold ExprC at h
  obtain ⟨la, lc, aa, ac, rfl, hi, _⟩ := h
  have HI := Lib.hid hi
  clear hi
  go_enter Tryd.func61, Tryd.ntmps61
  go_wp2_with fail
  have hb0 : Below w.heap.size w (w.alloc (.cells #[.int .i64 k, .string ⟨nm.toArray⟩, .int .i64 n, .slice la ls.length lc, .slice aa xs.length ac] 26)) := (Below.refl _ _).alloc (Nat.le_refl _) _
  have HI1 := Lib.hid (HI.out.mono (fun b hF hlt => ⟨hF, hb0.block b hlt⟩))
  have HB0 := Lib.hid hb0
  clear hb0 HI
  have hl' : ls.length ≤ 9223372036854775807 := hl
  have hn' : xs.length ≤ 1000000000 := hn
  clear hl hn
  have c0 : (w.alloc (.cells #[.int .i64 k, .string ⟨nm.toArray⟩, .int .i64 n, .slice la ls.length lc, .slice aa xs.length ac] 26)).cell? ⟨w.heap.size, 0, none⟩ = some (.int .i64 k) := World.cell?_alloc_new _ _ _ 0
  have c1 : (w.alloc (.cells #[.int .i64 k, .string ⟨nm.toArray⟩, .int .i64 n, .slice la ls.length lc, .slice aa xs.length ac] 26)).cell? ⟨w.heap.size, 1, none⟩ = some (.string ⟨nm.toArray⟩) := World.cell?_alloc_new _ _ _ 1
  have c2 : (w.alloc (.cells #[.int .i64 k, .string ⟨nm.toArray⟩, .int .i64 n, .slice la ls.length lc, .slice aa xs.length ac] 26)).cell? ⟨w.heap.size, 2, none⟩ = some (.int .i64 n) := World.cell?_alloc_new _ _ _ 2
  have c3 : (w.alloc (.cells #[.int .i64 k, .string ⟨nm.toArray⟩, .int .i64 n, .slice la ls.length lc, .slice aa xs.length ac] 26)).cell? ⟨w.heap.size, 3, none⟩ = some (.slice la ls.length lc) := World.cell?_alloc_new _ _ _ 3
  have c4 : (w.alloc (.cells #[.int .i64 k, .string ⟨nm.toArray⟩, .int .i64 n, .slice la ls.length lc, .slice aa xs.length ac] 26)).cell? ⟨w.heap.size, 4, none⟩ = some (.slice aa xs.length ac) := World.cell?_alloc_new _ _ _ 4
  generalize w.alloc (.cells #[.int .i64 k, .string ⟨nm.toArray⟩, .int .i64 n, .slice la ls.length lc, .slice aa xs.length ac] 26) = W at *
  go_loopg [8] ls.length (fun g v8 wr => RelList2 ls v8 g ∧ wr = W)
  case atStart => exact ⟨⟨0, by omega, rfl, by simp⟩, rfl⟩
  case round =>
    obtain ⟨⟨i, hig, rfl, hall⟩, rfl⟩ := hrel
    have HALL := Lib.hid hall
    clear hall
    by_cases hi : i < ls.length
    · obtain ⟨b, o, rfl, _, hcell⟩ := HI1.out (by omega)
      have p := hcell i hi
      have hi0 : (0 : Int) ≤ (i : Int) := by omega
      have hi1 : (i : Int) < (ls.length : Int) := by omega
      have HALL2 := Lib.hid (take_all (p := litB) hi)
      have HALF : Hid (litB (ls.getD i 0) = false → ls.all litB = false) := all_false hi
      clear hcell
      generalize ls.getD i 0 = z at *
      cases hz : litB z
      · go_wp2_with (first
        | (go_at_call 71; refine (isNumber_c _ _).mono ?_; rintro e w' ⟨rfl, rfl⟩)
        | (go_at_call 72; refine (isName_c _ _).mono ?_; rintro e w' ⟨rfl, rfl⟩))
        go_ret
        exact ⟨ret_bool (by simp only [nodeB, HALF.out hz, Bool.false_and]), HB0.out⟩
      · go_wp2_with (first
        | (go_at_call 71; refine (isNumber_c _ _).mono ?_; rintro e w' ⟨rfl, rfl⟩)
        | (go_at_call 72; refine (isName_c _ _).mono ?_; rintro e w' ⟨rfl, rfl⟩))
        go_roundg (ls.length - (i + 1))
        case measure => omega
        case rel => exact ⟨⟨i + 1, by omega, by simp, by rw [HALL2.out, HALL.out, hz]; rfl⟩, rfl⟩
    · have hall : ls.all litB = true := by
        have := HALL.out
        rwa [List.take_of_length_le (by omega)] at this
      have HND : Hid (nodeB (.mk k nm n ls xs) = (if k = 1 then litB n && nm.isEmpty && ls.isEmpty && xs.isEmpty else if k = 2 then decide (n = 0) && nm.isEmpty && xs.isEmpty
          else if k = 3 then decide (n = 0) && nameB nm && ls.isEmpty else if k = 4 then decide (n = 0) && nameB nm && ls.isEmpty && xs.isEmpty else false)) := by
        show _ = _
        simp only [nodeB, hall, Bool.true_and]
      clear hall HALL HI1
      by_cases h1 : k = 1
      · subst h1
        have HND2 : Hid (nodeB (.mk 1 nm n ls xs) = (litB n && nm.isEmpty && ls.isEmpty && xs.isEmpty)) := HND.out
        clear HND
        go_wp2_with (first | (go_at_call 71; refine (isNumber_c _ _).mono ?_; rintro e w' ⟨rfl, rfl⟩) | (go_at_call 72; refine (isName_c _ _).mono ?_; rintro e w' ⟨rfl, rfl⟩))
        all_goals (go_ret; exact ⟨ret_bool (by rw [HND2.out]; first | (simp [*]; done) | (simp [*]; omega) | (rw [Bool.eq_iff_iff]; simp [*]; done) | (rw [Bool.eq_iff_iff]; simp [*]; omega)), HB0.out⟩)
      · by_cases h2 : k = 2
        · subst h2
          have HND2 : Hid (nodeB (.mk 2 nm n ls xs) = (decide (n = 0) && nm.isEmpty && xs.isEmpty)) := HND.out
          clear HND
          go_wp2_with (first | (go_at_call 71; refine (isNumber_c _ _).mono ?_; rintro e w' ⟨rfl, rfl⟩) | (go_at_call 72; refine (isName_c _ _).mono ?_; rintro e w' ⟨rfl, rfl⟩))
          all_goals (go_ret; exact ⟨ret_bool (by rw [HND2.out]; first | (simp [*]; done) | (simp [*]; omega) | (rw [Bool.eq_iff_iff]; simp [*]; done) | (rw [Bool.eq_iff_iff]; simp [*]; omega)), HB0.out⟩)
        · by_cases h3 : k = 3
          · subst h3
            have HND2 : Hid (nodeB (.mk 3 nm n ls xs) = (decide (n = 0) && nameB nm && ls.isEmpty)) := HND.out
            clear HND
            go_wp2_with (first | (go_at_call 71; refine (isNumber_c _ _).mono ?_; rintro e w' ⟨rfl, rfl⟩) | (go_at_call 72; refine (isName_c _ _).mono ?_; rintro e w' ⟨rfl, rfl⟩))
            all_goals (go_ret; exact ⟨ret_bool (by rw [HND2.out]; first | (simp [*]; done) | (simp [*]; omega) | (rw [Bool.eq_iff_iff]; simp [*]; done) | (rw [Bool.eq_iff_iff]; simp [*]; omega)), HB0.out⟩)
          · by_cases h4 : k = 4
            · subst h4
              have HND2 : Hid (nodeB (.mk 4 nm n ls xs) = (decide (n = 0) && nameB nm && ls.isEmpty && xs.isEmpty)) := HND.out
              clear HND
              go_wp2_with (first | (go_at_call 71; refine (isNumber_c _ _).mono ?_; rintro e w' ⟨rfl, rfl⟩) | (go_at_call 72; refine (isName_c _ _).mono ?_; rintro e w' ⟨rfl, rfl⟩))
              all_goals (go_ret; exact ⟨ret_bool (by rw [HND2.out]; first | (simp [*]; done) | (simp [*]; omega) | (rw [Bool.eq_iff_iff]; simp [*]; done) | (rw [Bool.eq_iff_iff]; simp [*]; omega)), HB0.out⟩)
            · have HND2 : Hid (nodeB (.mk k nm n ls xs) = false) := by show _ = _; rw [HND.out, if_neg h1, if_neg h2, if_neg h3, if_neg h4]
              clear HND
              go_wp2_with fail
              go_ret
              exact ⟨ret_bool HND2.out.symm, HB0.out⟩
#print axioms node_c
end Go.Proofs.YtbjagceopgofiaaDoor
