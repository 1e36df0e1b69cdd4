/-
  The reference's field: Same.
-/
import Derived.Test.YtcfejnnhcdlffaaGreatRq
namespace Go.Proofs.YtcfejnnhcdlffaaGreat
open Go.RowKit Pln

/-- Two boxes of one type. -/
def TB (w : World) (cs ds : List Value) (t : TypeId) (W : World) : Prop := W.heap[w.heap.size]? = some (.cells cs.toArray t (0, 0)) ∧ W.heap[w.heap.size + 1]? = some (.cells ds.toArray t (0, 0)) ∧ Below w.heap.size w W ∧ w.heap.size + 1 < W.heap.size
section
variable {w : World} {cs ds : List Value} {t : TypeId} {W W' : World}
theorem TB.grow (h : TB w cs ds t W) (hb : Below W.heap.size W W') : TB w cs ds t W' := by
  obtain ⟨h1, h2, h3, h4⟩ := h
  exact ⟨(hb.block _ (by omega)).trans h1, (hb.block _ (by omega)).trans h2, h3.trans (hb.mono (by omega)), Nat.lt_of_lt_of_le h4 hb.size⟩
theorem TB.below (h : TB w cs ds t W) : Below w.heap.size w W := h.2.2.1
theorem TB.cell (h : TB w cs ds t W) {k : Nat} {v : Value} (hv : cs[k]? = some v) : W.cell? ⟨w.heap.size, k, none⟩ = some v := by
  rw [cell_of_row W w.heap.size k _ _ _ h.1]
  simpa using hv
theorem TB.cell1 (h : TB w cs ds t W) {k : Nat} {v : Value} (hv : ds[k]? = some v) : W.cell? ⟨w.heap.size + 1, k, none⟩ = some v := by
  rw [cell_of_row W (w.heap.size + 1) k _ _ _ h.2.1]
  simpa using hv
theorem TB.sub (h : TB w cs ds t W) (o : Nat) (es : List Value) (hd : ∀ j, j < es.length → cs[o + j]? = es[j]?) : W.rangeAt w.heap.size o es := fun j v hv => by
  have hj : j < es.length := (List.getElem?_eq_some_iff.1 hv).1
  have h1 := hd j hj
  rw [hv] at h1
  have := range_of_row h.1 (o + j) v h1
  rw [Nat.zero_add] at this
  exact this
theorem TB.sub1 (h : TB w cs ds t W) (o : Nat) (es : List Value) (hd : ∀ j, j < es.length → ds[o + j]? = es[j]?) : W.rangeAt (w.heap.size + 1) o es := fun j v hv => by
  have hj : j < es.length := (List.getElem?_eq_some_iff.1 hv).1
  have h1 := hd j hj
  rw [hv] at h1
  have := range_of_row h.2.1 (o + j) v h1
  rw [Nat.zero_add] at this
  exact this
end
theorem tb_new (w : World) (cs ds : List Value) (t : TypeId) : TB w cs ds t ((w.alloc (.cells cs.toArray t)).alloc (.cells ds.toArray t)) := by
  refine ⟨(Below.heap_alloc _ _ _ (by simp)).trans (heap_alloc_new _ _), ?_, (((Below.refl _ _).alloc (Nat.le_refl _) _).alloc (by simp) _), by simp⟩
  have := heap_alloc_new (w.alloc (.cells cs.toArray t)) (.cells ds.toArray t)
  rw [show (w.alloc (.cells cs.toArray t)).heap.size = w.heap.size + 1 by simp] at this
  exact this
def RelFS (w : World) (cs ds : List Value) (t : TypeId) (n : Nat) (v : Value) (wr : World) : Prop := ∃ k : Nat, k ≤ n ∧ v = .int .i64 k ∧ TB w cs ds t wr

set_option maxHeartbeats 1000000 in
set_option maxRecDepth 100000 in
theorem fsame_c (p m : Int) (mod : List Int) (A A' : Option Addr) (c c' : Nat) (w : World) (hA : IntsAt w w.heap.size A mod) (hA' : IntsAt w w.heap.size A' mod) (hl : mod.length ≤ 9223372036854775807) :
    Calls Tryz.prog 16 #[.agg #[.int .i64 p, .int .i64 m, .slice A mod.length c], .agg #[.int .i64 p, .int .i64 m, .slice A' mod.length c']] w fun e w' => e = .returned (.bool true) ∧ Below w.heap.size w w' := by
  have HX := Lib.hid (tb_new w [.int .i64 p, .int .i64 m, .slice A mod.length c] [.int .i64 p, .int .i64 m, .slice A' mod.length c'] 24)
  have HA := Lib.hid hA
  have HA' := Lib.hid hA'
  clear hA hA'
  go_enter Tryz.func16, Tryz.ntmps16
  go_upto_region 1 with fail
  generalize (w.alloc (.cells #[.int .i64 p, .int .i64 m, .slice A mod.length c] 24)).alloc (.cells #[.int .i64 p, .int .i64 m, .slice A' mod.length c'] 24) = W0 at *
  have a0 : W0.cell? ⟨w.heap.size, 0, none⟩ = some (.int .i64 p) := HX.out.cell rfl
  have a1 : W0.cell? ⟨w.heap.size, 1, none⟩ = some (.int .i64 m) := HX.out.cell rfl
  have a2 : W0.cell? ⟨w.heap.size, 2, none⟩ = some (.slice A mod.length c) := HX.out.cell rfl
  have d0 : W0.cell? ⟨w.heap.size + 1, 0, none⟩ = some (.int .i64 p) := HX.out.cell1 rfl
  have d1 : W0.cell? ⟨w.heap.size + 1, 1, none⟩ = some (.int .i64 m) := HX.out.cell1 rfl
  have d2 : W0.cell? ⟨w.heap.size + 1, 2, none⟩ = some (.slice A' mod.length c') := HX.out.cell1 rfl
  go_wp2_with fail
  go_loopw [5] (fun v5 wr => RelFS w [.int .i64 p, .int .i64 m, .slice A mod.length c] [.int .i64 p, .int .i64 m, .slice A' mod.length c'] 24 mod.length v5 wr) (fun v5 _ => mod.length - (intOf v5).toNat)
  case atStart => exact ⟨0, by omega, rfl, HX.out⟩
  case round =>
    clear a0 a1 a2 d0 d1 d2 HX
    obtain ⟨k, hk, rfl, hx⟩ := hrel
    have HX := Lib.hid hx
    clear hx
    have a2 : wr.cell? ⟨w.heap.size, 2, none⟩ = some (.slice A mod.length c) := HX.out.cell rfl
    by_cases hlt : k < mod.length
    · have d2 : wr.cell? ⟨w.heap.size + 1, 2, none⟩ = some (.slice A' mod.length c') := HX.out.cell1 rfl
      obtain ⟨b, o, rfl, hb, hc⟩ := (HA.out.keep HX.out.below).at_ hlt
      obtain ⟨b', o', rfl, hb', hc'⟩ := (HA'.out.keep HX.out.below).at_ hlt
      generalize mod.getD k 0 = z at *
      have k0 : (0 : Int) ≤ (k : Int) := by omega
      have k1 : (k : Int) < (mod.length : Int) := by omega
      have hzb : (z != z) = false := by simp
      go_upto_region 6 with fail
      go_quiet (fail)
      go_wp2_with fail
      go_roundw
      case rel => exact ⟨k + 1, by omega, by go_num, HX.out.grow (below_drewN (Below.refl _ _) _)⟩
      case measure => simp [intOf]; omega
    · obtain rfl : k = mod.length := by omega
      go_wp2_with fail
      go_ret
      exact ⟨rfl, HX.out.below⟩
#print axioms fsame_c
end Go.Proofs.YtcfejnnhcdlffaaGreat

/-
  The reference's Same of codes, maps, exclusions.
-/
namespace Go.Proofs.YtcfejnnhcdlffaaGreat
open Go.RowKit Pln

theorem ints_none (w : World) (B : Nat) : IntsAt w B none [] := fun h => absurd h (by simp)
theorem rows_none (w : World) (B : Nat) : RowsAt w B none [] := fun h => absurd h (by simp)
theorem rsame_nil (w : World) : Calls Tryz.prog 15 #[.slice none 0 0, .slice none 0 0] w fun e w' => e = .returned (.bool true) ∧ Below w.heap.size w w' := by
  refine (rsame_c [] [] none none 0 0 w (ints_none _ _) (ints_none _ _) (by simp)).mono ?_
  rintro e w' ⟨rfl, n, rfl⟩
  exact ⟨rfl, below_drewN (Below.refl _ _) n⟩
theorem rsamerows_nil (w : World) : Calls Tryz.prog 31 #[.slice none 0 0, .slice none 0 0] w fun e w' => e = .returned (.bool true) ∧ Below w.heap.size w w' := by
  refine (rsamerows_c [] [] none none 0 0 w (rows_none _ _) (rows_none _ _) (by simp) (fun k h => absurd h (by simp))).mono ?_
  rintro e w' ⟨rfl, n, rfl⟩
  exact ⟨rfl, below_drewN (Below.refl _ _) n⟩

set_option maxHeartbeats 1000000 in
set_option maxRecDepth 100000 in
theorem csame_c (p m : Int) (mod : List Int) (N : Int) (zs : List (List Int)) (A A' B B' : Option Addr) (c c' d d' : Nat) (w : World) (hA : IntsAt w w.heap.size A mod) (hA' : IntsAt w w.heap.size A' mod) (hl : mod.length ≤ 9223372036854775807)
    (hB : RowsAt w w.heap.size B zs) (hB' : RowsAt w w.heap.size B' zs) (hlz : zs.length ≤ 9223372036854775807) (hr : ∀ k, k < zs.length → (zs.getD k []).length ≤ 9223372036854775807) :
    Calls Tryz.prog 14 #[.agg #[.int .i64 p, .int .i64 m, .slice A mod.length c, .int .i64 N, .slice B zs.length d], .agg #[.int .i64 p, .int .i64 m, .slice A' mod.length c', .int .i64 N, .slice B' zs.length d']] w fun e w' => e = .returned (.bool true) ∧ Below w.heap.size w w' := by
  have HX := Lib.hid (tb_new w [.int .i64 p, .int .i64 m, .slice A mod.length c, .int .i64 N, .slice B zs.length d] [.int .i64 p, .int .i64 m, .slice A' mod.length c', .int .i64 N, .slice B' zs.length d'] 27)
  have HA := Lib.hid hA
  have HA' := Lib.hid hA'
  have HB := Lib.hid hB
  have HB' := Lib.hid hB'
  have HR := Lib.hid hr
  clear hA hA' hB hB' hr
  go_enter Tryz.func14, Tryz.ntmps14
  go_upto_region 1 with fail
  generalize (w.alloc (.cells #[.int .i64 p, .int .i64 m, .slice A mod.length c, .int .i64 N, .slice B zs.length d] 27)).alloc (.cells #[.int .i64 p, .int .i64 m, .slice A' mod.length c', .int .i64 N, .slice B' zs.length d'] 27) = W0 at *
  have HG1 := Lib.hid (HX.out.sub 0 [.int .i64 p, .int .i64 m, .slice A mod.length c] (fun j hj => by rcases j with _ | _ | _ | j <;> first | rfl | (simp at hj; omega)))
  have HG2 := Lib.hid (HX.out.sub1 0 [.int .i64 p, .int .i64 m, .slice A' mod.length c'] (fun j hj => by rcases j with _ | _ | _ | j <;> first | rfl | (simp at hj; omega)))
  have HC := Lib.hid (fsame_c p m mod A A' c c' W0 ((HA.out.keep HX.out.below).more HX.out.below.size) ((HA'.out.keep HX.out.below).more HX.out.below.size) hl)
  go_wp2_with (first | (refine wpList_load_mid rfl 24 (.tmp 5) rfl w.heap.size 0 rfl [.int .i64 p, .int .i64 m, .slice A mod.length c] _ HG1.out Tryz.underlying24 rfl fieldSize ?_) | (refine wpList_load_mid rfl 24 (.tmp 7) rfl (w.heap.size + 1) 0 rfl [.int .i64 p, .int .i64 m, .slice A' mod.length c'] _ HG2.out Tryz.underlying24 rfl fieldSize ?_))
  (with_reducible refine HC.out.mono ?_)
  rintro e w1 ⟨rfl, hb1⟩
  have HX1 := Lib.hid (HX.out.grow hb1)
  clear hb1 HX HC HG1 HG2
  clear W0
  have a3 : w1.cell? ⟨w.heap.size, 3, none⟩ = some (.int .i64 N) := HX1.out.cell rfl
  have a4 : w1.cell? ⟨w.heap.size, 4, none⟩ = some (.slice B zs.length d) := HX1.out.cell rfl
  have d3 : w1.cell? ⟨w.heap.size + 1, 3, none⟩ = some (.int .i64 N) := HX1.out.cell1 rfl
  have d4 : w1.cell? ⟨w.heap.size + 1, 4, none⟩ = some (.slice B' zs.length d') := HX1.out.cell1 rfl
  have HC := Lib.hid (rsamerows_c zs zs B B' d d' w1 ((HB.out.keep HX1.out.below).more HX1.out.below.size) ((HB'.out.keep HX1.out.below).more HX1.out.below.size) hlz HR.out)
  rw [decide_eq_true rfl] at HC
  go_wp2_with fail
  (with_reducible refine HC.out.mono ?_)
  rintro e w2 ⟨rfl, n, rfl⟩
  have HX2 := Lib.hid (HX1.out.grow (below_drewN (Below.refl _ _) n))
  go_wp2_with fail
  go_ret
  exact ⟨rfl, HX2.out.below⟩
#print axioms csame_c

set_option maxHeartbeats 1000000 in
set_option maxRecDepth 100000 in
theorem msame_c (w : World) :
    Calls Tryz.prog 17 #[.agg #[.slice none 0 0, .slice none 0 0, .int .i64 0], .agg #[.slice none 0 0, .slice none 0 0, .int .i64 0]] w fun e w' => e = .returned (.bool true) ∧ Below w.heap.size w w' := by
  have HX := Lib.hid (tb_new w [.slice none 0 0, .slice none 0 0, .int .i64 0] [.slice none 0 0, .slice none 0 0, .int .i64 0] 38)
  go_enter Tryz.func17, Tryz.ntmps17
  go_upto_region 1 with fail
  generalize (w.alloc (.cells #[.slice none 0 0, .slice none 0 0, .int .i64 0] 38)).alloc (.cells #[.slice none 0 0, .slice none 0 0, .int .i64 0] 38) = W0 at *
  have a2 : W0.cell? ⟨w.heap.size, 2, none⟩ = some (.int .i64 0) := HX.out.cell rfl
  have a0 : W0.cell? ⟨w.heap.size, 0, none⟩ = some (.slice none 0 0) := HX.out.cell rfl
  have d2 : W0.cell? ⟨w.heap.size + 1, 2, none⟩ = some (.int .i64 0) := HX.out.cell1 rfl
  have d0 : W0.cell? ⟨w.heap.size + 1, 0, none⟩ = some (.slice none 0 0) := HX.out.cell1 rfl
  have HC := Lib.hid (rsame_nil W0)
  go_wp2_with fail
  (with_reducible refine HC.out.mono ?_)
  rintro e w1 ⟨rfl, hb1⟩
  have HX1 := Lib.hid (HX.out.grow hb1)
  clear hb1 HX HC a2 a0 d2 d0
  clear W0
  have a1 : w1.cell? ⟨w.heap.size, 1, none⟩ = some (.slice none 0 0) := HX1.out.cell rfl
  have d1 : w1.cell? ⟨w.heap.size + 1, 1, none⟩ = some (.slice none 0 0) := HX1.out.cell1 rfl
  have HC := Lib.hid (rsame_nil w1)
  go_wp2_with fail
  (with_reducible refine HC.out.mono ?_)
  rintro e w2 ⟨rfl, hb2⟩
  have HX2 := Lib.hid (HX1.out.grow hb2)
  go_wp2_with fail
  go_ret
  exact ⟨rfl, HX2.out.below⟩
#print axioms msame_c

set_option maxHeartbeats 1000000 in
set_option maxRecDepth 100000 in
theorem xsame_c (w : World) :
    Calls Tryz.prog 18 #[.agg #[.slice none 0 0], .agg #[.slice none 0 0]] w fun e w' => e = .returned (.bool true) ∧ Below w.heap.size w w' := by
  have HX := Lib.hid (tb_new w [.slice none 0 0] [.slice none 0 0] 40)
  go_enter Tryz.func18, Tryz.ntmps18
  go_upto_region 1 with fail
  generalize (w.alloc (.cells #[.slice none 0 0] 40)).alloc (.cells #[.slice none 0 0] 40) = W0 at *
  have a0 : W0.cell? ⟨w.heap.size, 0, none⟩ = some (.slice none 0 0) := HX.out.cell rfl
  have d0 : W0.cell? ⟨w.heap.size + 1, 0, none⟩ = some (.slice none 0 0) := HX.out.cell1 rfl
  have HC := Lib.hid (rsamerows_nil W0)
  go_wp2_with fail
  (with_reducible refine HC.out.mono ?_)
  rintro e w1 ⟨rfl, hb1⟩
  have HX1 := Lib.hid (HX.out.grow hb1)
  clear hb1
  go_wp2_with fail
  go_ret
  exact ⟨rfl, HX1.out.below⟩
#print axioms xsame_c
end Go.Proofs.YtcfejnnhcdlffaaGreat
