/-
  The walk of LangOffsets.
-/
import Derived.Test.YtbjagceopgofiaaDoorRefE
import Derived.Test.YtbjagceopgofiaaDoorLawTok
import Derived.Test.YtbjagceopgofiaaDoorPlainC
namespace Go.Proofs.YtbjagceopgofiaaDoor
open Go.RowKit

theorem zero_expr (w : World) (F : Nat → Prop) : ExprC w F (.mk 0 [] 0 [] []) [.int .i64 0, .string ⟨#[]⟩, .int .i64 0, .slice none 0 0, .slice none 0 0] := by
  unfold ExprC
  exact ⟨none, 0, none, 0, rfl, fun h => absurd h (by simp), fun h => absurd h (by simp)⟩
theorem zero_size : sizeE (.mk 0 [] 0 [] []) ≤ 1000000000 := by simp [sizeE, sizeL]
theorem zero_ent : entE (.mk 0 [] 0 [] []) ≤ 1000000000 := by simp [entE, entL]

set_option maxHeartbeats 4000000 in
set_option maxRecDepth 100000 in
theorem lawOff_ok (s : ByteArray) (w : World) (ht : Pows w) (x : E) (hR : parseM s.data.toList = .ok x) :
    Calls Tryd.prog 9 #[.string s] w fun e w' => e = .returned (.bool true) ∧ Below w.heap.size w w' := by
  have HR := Lib.hid hR
  have HA := Lib.hid (alive_c w ht)
  obtain ⟨hf, hsh, hd, hs⟩ := parse_props hR
  have he2 := ent_short x hsh
  have HCK := Lib.hid (parse_check hR)
  clear hR ht
  go_enter Tryd.func9, Tryd.ntmps9
  go_wp2_with (go_at_call 12; refine HA.out.mono ?_)
  rintro e w1 ⟨rfl, hb1⟩
  have HB1 := Lib.hid hb1
  clear hb1
  go_wp2_with fail
  refine (parse_c s w1).mono ?_
  intro u w2 hp
  rw [HR.out] at hp
  obtain ⟨cs, rfl, hx, hb2⟩ := hp
  obtain ⟨k, nm, n, la, ll, lc, aa, al, ac, rfl⟩ := hx.shape
  have hba : Below w2.heap.size w2 (w2.alloc (.cells #[.int .i64 k, .string nm, .int .i64 n, .slice la ll lc, .slice aa al ac] 26)) := (Below.refl _ _).alloc (Nat.le_refl _) _
  have hra : (w2.alloc (.cells #[.int .i64 k, .string nm, .int .i64 n, .slice la ll lc, .slice aa al ac] 26)).heap[w2.heap.size]? = some (.cells #[.int .i64 k, .string nm, .int .i64 n, .slice la ll lc, .slice aa al ac] 26 (0, 0)) := heap_alloc_new _ _
  have HX3 := Lib.hid (hx.all.grow hba)
  obtain ⟨z0, z1, z2, z3, z4⟩ := cells5 hra
  have HB3 := Lib.hid ((HB1.out.trans (hb2.mono HB1.out.size)).trans (hba.mono (Nat.le_trans HB1.out.size hb2.size)))
  clear hb2 hx hba hra HB1
  go_wp2_with (refine wpList_store_new rfl 26 (.tmp 3) (.tmp 16) rfl w2 _ #[.int .i64 k, .string nm, .int .i64 n, .slice la ll lc, .slice aa al ac] rfl rfl exprSize rfl (by simp [Value.oneCell']) ?_)
  generalize w2.alloc (.cells #[.int .i64 k, .string nm, .int .i64 n, .slice la ll lc, .slice aa al ac] 26) = w3 at *
  refine (rcheck_c x _ _ w3 HX3.out (by omega) (by omega)).mono ?_
  rintro e w4 ⟨rfl, hb4⟩
  have HB4 := Lib.hid (HB3.out.trans (hb4.mono HB3.out.size))
  have hck : checkE x = 0 ∨ checkE x = 8 := by rw [HCK.out]; split <;> simp
  clear hb4 z0 z1 z2 z3 z4
  generalize checkE x = z at *
  have hz : ¬ (z : Int) = 5 := by omega
  go_wp2_with fail
  go_ret
  exact ⟨ret_bool (by simp; omega), HB4.out⟩

def RelOf (W : World) (ts : List Tok) (p : Nat) (v : Value) (g : Nat) (wr : World) : Prop := ∃ i, i + g = ts.length ∧ v = .int .i64 i ∧ Below W.heap.size W wr ∧ ∀ j t, j < i → ts[j]? = some t → t.pos ≠ p
set_option maxHeartbeats 4000000 in
set_option maxRecDepth 100000 in
theorem lawOff_err (s : ByteArray) (w : World) (ht : Pows w) (er p : Nat) (hR : parseM s.data.toList = .error (er, p)) :
    Calls Tryd.prog 9 #[.string s] w fun e w' => e = .returned (.bool true) ∧ Below w.heap.size w w' := by
  have HR := Lib.hid hR
  have HA := Lib.hid (alive_c w ht)
  obtain ⟨h814, hpl, hcase⟩ := parse_err_at hR
  rw [len_data] at hpl
  have hne : ¬ (er : Int) = 0 := by omega
  have HCASE := Lib.hid hcase
  clear hR ht hcase
  go_enter Tryd.func9, Tryd.ntmps9
  go_wp2_with (go_at_call 12; refine HA.out.mono ?_)
  rintro e w1 ⟨rfl, hb1⟩
  have HB1 := Lib.hid hb1
  clear hb1
  go_wp2_with fail
  refine (parse_c s w1).mono ?_
  intro u w2 hp
  rw [HR.out] at hp
  obtain ⟨rfl, hb2⟩ := hp
  have hra : (w2.alloc (.cells zeroE 26)).heap[w2.heap.size]? = some (.cells #[.int .i64 0, .string ⟨#[]⟩, .int .i64 0, .slice none 0 0, .slice none 0 0] 26 (0, 0)) := heap_alloc_new _ _
  have HRA := Lib.hid (range_of_row5 (cs := [.int .i64 0, .string ⟨#[]⟩, .int .i64 0, .slice none 0 0, .slice none 0 0]) hra)
  have HB3 := Lib.hid ((HB1.out.trans (hb2.mono HB1.out.size)).alloc (Nat.le_trans HB1.out.size hb2.size) (.cells zeroE 26))
  clear hb2 hra
  go_wp2_with (first
    | (refine wpList_store_new rfl 26 (.tmp 3) (.tmp 16) rfl w2 _ zeroE rfl rfl exprSize rfl (by simp [zeroE, Value.oneCell']) ?_)
    | (refine wpList_load_mid rfl 26 (.tmp 3) rfl w2.heap.size 0 rfl [.int .i64 0, .string ⟨#[]⟩, .int .i64 0, .slice none 0 0, .slice none 0 0] _ HRA.out Tryd.underlying26 rfl exprSize ?_))
  generalize w2.alloc (.cells zeroE 26) = w3 at *
  refine (same_c (.mk 0 [] 0 [] []) _ _ (fun _ => True) (fun _ => True) w3 (zero_expr _ _) (zero_expr _ _) zero_size zero_ent).mono ?_
  rintro e w4 ⟨rfl, hb4⟩
  have HB4 := Lib.hid (HB3.out.trans (hb4.mono HB3.out.size))
  clear hb4 HRA
  have hp0 : ¬ (p : Int) < 0 := by omega
  have hp1 : ¬ (s.size : Int) < (p : Int) := by omega
  go_wp2_with fail
  refine (rtokens_c s w4).mono ?_
  intro u w5 hp5
  rcases HCASE.out with ⟨e, hte, rfl⟩ | ⟨ts, hto, hpos⟩
  · rw [hte] at hp5
    obtain ⟨rfl, hb5⟩ := hp5
    have HB5 := Lib.hid (HB4.out.trans (hb5.mono HB4.out.size))
    clear hb5
    go_wp2_with fail
    go_ret
    exact ⟨rfl, HB5.out⟩
  · have hl2 := (tokensM_len hto).2
    rw [len_data] at hl2
    rw [hto] at hp5
    obtain ⟨v, rfl, ho5, hb5⟩ := hp5
    obtain ⟨A, c, rfl, ha⟩ := ho5.at_
    have HTA := Lib.hid ha
    have HB5 := Lib.hid (HB4.out.trans (hb5.mono HB4.out.size))
    have HPOS := Lib.hid hpos
    have h65 := (tokensM_len hto).1
    rw [len_data] at h65
    clear hb5 ha ho5 hpos hto
    go_wp2_with fail
    go_loopg [60] ts.length (fun g v wr => RelOf w5 ts p v g wr)
    case atStart => exact ⟨0, by omega, rfl, Below.refl _ _, fun j t hj => by omega⟩
    case round =>
      obtain ⟨i, hig, rfl, hb, hno⟩ := hrel
      have HB := Lib.hid hb
      have HNO := Lib.hid hno
      clear hno
      by_cases hi : i < ts.length
      · obtain ⟨g1, rfl, hg1, hr1⟩ := HTA.out (by omega)
        have q1 := rangeAt_kept (hr1 i _ (List.getElem?_eq_getElem hi)) hb hg1
        have HGI : Hid (ts[i]? = some ts[i]) := List.getElem?_eq_getElem hi
        generalize ts[i] = t at *
        have Q1 : Hid (wr.rangeAt g1 (i * 4) [.int .i64 t.kind, .string ⟨t.text.toArray⟩, .int .i64 t.n, .int .i64 t.pos]) := q1
        have hi0 : (0 : Int) ≤ (i : Int) := by omega
        have hi1 : (i : Int) < (ts.length : Int) := by omega
        have hba := hb.alloc hb.size (.cells #[.int .i64 t.kind, .string ⟨t.text.toArray⟩, .int .i64 t.n, .int .i64 t.pos] 40)
        have HBA := Lib.hid hba
        clear hr1 q1 HTA hb hba
        by_cases hpt : t.pos = p
        · subst hpt
          go_wp2_with (first
            | (refine wpList_load_mid rfl 40 (.tmp 62) rfl g1 (i * 4) rfl [.int .i64 t.kind, .string ⟨t.text.toArray⟩, .int .i64 t.n, .int .i64 t.pos] _ Q1.out Tryd.underlying40 rfl tokSize ?_)
            | (refine wpList_store_new rfl 40 (.tmp 10) (.tmp 63) rfl wr _ #[.int .i64 t.kind, .string ⟨t.text.toArray⟩, .int .i64 t.n, .int .i64 t.pos] rfl rfl tokSize rfl (by simp [Value.oneCell']) ?_))
          go_ret
          exact ⟨rfl, HB5.out.trans (HBA.out.mono HB5.out.size)⟩
        · have hpi : ¬ (t.pos : Int) = (p : Int) := by omega
          go_wp2_with (first
            | (refine wpList_load_mid rfl 40 (.tmp 62) rfl g1 (i * 4) rfl [.int .i64 t.kind, .string ⟨t.text.toArray⟩, .int .i64 t.n, .int .i64 t.pos] _ Q1.out Tryd.underlying40 rfl tokSize ?_)
            | (refine wpList_store_new rfl 40 (.tmp 10) (.tmp 63) rfl wr _ #[.int .i64 t.kind, .string ⟨t.text.toArray⟩, .int .i64 t.n, .int .i64 t.pos] rfl rfl tokSize rfl (by simp [Value.oneCell']) ?_))
          go_roundg (ts.length - (i + 1))
          case measure => omega
          case rel =>
            refine ⟨i + 1, by omega, by simp, HBA.out, fun j u hj hu => ?_⟩
            by_cases hji : j = i
            · subst hji
              rw [HGI.out] at hu
              injection hu with hu
              rw [← hu]
              exact hpt
            · exact HNO.out j u (by omega) hu
      · have hpe : p = s.size := by
          rcases HPOS.out with ⟨t, htm, htp⟩ | h
          · obtain ⟨j, hj, hjt⟩ := List.mem_iff_getElem.1 htm
            exact absurd htp (HNO.out j t (by omega) (by rw [List.getElem?_eq_getElem hj, hjt]))
          · rwa [len_data] at h
        subst hpe
        clear hb
        go_wp2_with fail
        go_ret
        exact ⟨rfl, HB5.out.trans (HB.out.mono HB5.out.size)⟩
theorem lawOff_c (s : ByteArray) (w : World) (ht : Pows w) :
    Calls Tryd.prog 9 #[.string s] w fun e w' => e = .returned (.bool true) ∧ Below w.heap.size w w' := by
  cases hR : parseM s.data.toList with
  | error e => exact lawOff_err s w ht e.1 e.2 hR
  | ok x => exact lawOff_ok s w ht x hR
#print axioms lawOff_c
end Go.Proofs.YtbjagceopgofiaaDoor
