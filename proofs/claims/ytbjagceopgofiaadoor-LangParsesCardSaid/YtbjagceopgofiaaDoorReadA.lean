/-
  The reference's reader: kind, is, fail.
-/
import Derived.Test.YtbjagceopgofiaaDoorLawTok
import Derived.Test.YtbjagceopgofiaaDoorParsA
namespace Go.Proofs.YtbjagceopgofiaaDoor
open Go.RowKit

/-- A reader's six cells. -/
abbrev rdV (A : Option Addr) (c n : Nat) (en i nd e a : Int) : Array Value := #[.slice A n c, .int .i64 en, .int .i64 i, .int .i64 nd, .int .i64 e, .int .i64 a]
def TA (w : World) (A : Option Addr) (ts : List Tok) : Prop := 0 < ts.length → ∃ g, A = some ⟨g, 0, none⟩ ∧ g < w.heap.size ∧ ∀ i t, ts[i]? = some t → w.rangeAt g (i * 4) (tokCells t)
theorem TA.grow {w w' : World} {A : Option Addr} {ts : List Tok} (h : TA w A ts) (hb : Below w.heap.size w w') : TA w' A ts := fun hz => by
  obtain ⟨g, rfl, hg, hr⟩ := h hz
  exact ⟨g, rfl, Nat.lt_of_lt_of_le hg hb.size, fun i t ht => rangeAt_kept (hr i t ht) hb hg⟩
theorem TA.at_ {w : World} {A : Option Addr} {ts : List Tok} (h : TA w A ts) {i : Nat} (hi : i < ts.length) :
    ∃ g, A = some ⟨g, 0, none⟩ ∧ g < w.heap.size ∧ w.cell? ⟨g, i * 4, none⟩ = some (.int .i64 ts[i].kind) ∧ w.cell? ⟨g, i * 4 + 1, none⟩ = some (.string ⟨ts[i].text.toArray⟩) ∧ w.cell? ⟨g, i * 4 + 2, none⟩ = some (.int .i64 ts[i].n) ∧ w.cell? ⟨g, i * 4 + 3, none⟩ = some (.int .i64 ts[i].pos) := by
  obtain ⟨g, e, hg, hr⟩ := h (by omega)
  have q := hr i _ (List.getElem?_eq_getElem hi)
  exact ⟨g, e, hg, q 0 _ rfl, q 1 _ rfl, q 2 _ rfl, q 3 _ rfl⟩
theorem isT_at {ts : List Tok} {i : Nat} (c : UInt8) (h : i < ts.length) : isT ts i c = decide (ts[i].kind = 3 ∧ ts[i].text = [c]) := by unfold isT; rw [List.getElem?_eq_getElem h]
theorem isT_end {ts : List Tok} {i : Nat} (c : UInt8) (h : ts.length ≤ i) : isT ts i c = false := by unfold isT; rw [List.getElem?_eq_none h]
theorem rdSize : (Tryd.prog.info? 55).map (·.size) = some 6 := by kernel_rfl

set_option maxHeartbeats 2000000 in
set_option maxRecDepth 100000 in
theorem rkind_c {A : Option Addr} {c : Nat} {ts : List Tok} {en nd e a : Int} {i : Nat} (w : World) (h : TA w A ts) (_hl : ts.length ≤ 65536) (hi : i ≤ 65536) :
    Calls Tryd.prog 57 #[.agg (rdV A c ts.length en i nd e a)] w fun x w' => x = .returned (.int .i64 (kindT ts i)) ∧ Below w.heap.size w w' := by
  have hb : Below w.heap.size w (w.alloc (.cells (rdV A c ts.length en i nd e a) 55)) := (Below.refl _ _).alloc (Nat.le_refl _) _
  have HB := Lib.hid hb
  by_cases hlt : i < ts.length
  · obtain ⟨g, rfl, hg, k0, _, _, _⟩ := (h.grow hb).at_ hlt
    have HK := Lib.hid (kindT_at hlt)
    generalize ts[i].kind = kd at *
    have i0 : (0 : Int) ≤ (i : Int) := by omega
    have i1 : (i : Int) < (ts.length : Int) := by omega
    clear h hb
    go_enter Tryd.func57, Tryd.ntmps57
    go_wp2_with fail
    go_ret
    exact ⟨ret_int (by rw [HK.out]), HB.out⟩
  · have HK := Lib.hid (kindT_end (ts := ts) (i := i) (by omega))
    have i1 : ¬ (i : Int) < (ts.length : Int) := by omega
    clear h hb
    go_enter Tryd.func57, Tryd.ntmps57
    go_wp2_with fail
    go_ret
    exact ⟨ret_int (by rw [HK.out]; rfl), HB.out⟩

set_option maxHeartbeats 2000000 in
set_option maxRecDepth 100000 in
theorem ris_c {A : Option Addr} {c : Nat} {ts : List Tok} {en nd e a : Int} {i : Nat} (ch : UInt8) (w : World) (h : TA w A ts) (_hl : ts.length ≤ 65536) (hi : i ≤ 65536) :
    Calls Tryd.prog 58 #[.agg (rdV A c ts.length en i nd e a), .string ⟨#[ch]⟩] w fun x w' => x = .returned (.bool (isT ts i ch)) ∧ Below w.heap.size w w' := by
  have hb : Below w.heap.size w (w.alloc (.cells (rdV A c ts.length en i nd e a) 55)) := (Below.refl _ _).alloc (Nat.le_refl _) _
  have HB := Lib.hid hb
  by_cases hlt : i < ts.length
  · obtain ⟨g, rfl, hg, k0, k1, _, _⟩ := (h.grow hb).at_ hlt
    have HK := Lib.hid (isT_at ch hlt)
    generalize ts[i].kind = kd at *
    generalize ts[i].text = tx at *
    have i0 : (0 : Int) ≤ (i : Int) := by omega
    have i1 : (i : Int) < (ts.length : Int) := by omega
    clear h hb
    by_cases h3 : kd = 3
    · subst h3
      go_enter Tryd.func58, Tryd.ntmps58
      go_wp2_with fail
      go_ret
      exact ⟨ret_bool (by rw [HK.out]; rw [Bool.eq_iff_iff]; simp), HB.out⟩
    · have h3' : ¬ (kd : Int) = 3 := by omega
      go_enter Tryd.func58, Tryd.ntmps58
      go_wp2_with fail
      go_ret
      exact ⟨ret_bool (by rw [HK.out]; simp [h3]), HB.out⟩
  · have HK := Lib.hid (isT_end (ts := ts) (i := i) ch (by omega))
    have i1 : ¬ (i : Int) < (ts.length : Int) := by omega
    clear h hb
    go_enter Tryd.func58, Tryd.ntmps58
    go_wp2_with fail
    go_ret
    exact ⟨ret_bool HK.out.symm, HB.out⟩

set_option maxHeartbeats 2000000 in
set_option maxRecDepth 100000 in
theorem rfail_c {A : Option Addr} {c : Nat} {ts : List Tok} {en i : Nat} {nd a : Int} (er : Int) (w : World) (h : TA w A ts) (_hl : ts.length ≤ 65536) (hi : i ≤ 65536) :
    Calls Tryd.prog 31 #[.agg (rdV A c ts.length en i nd 0 a), .int .i64 er] w fun x w' => x = .returned (.agg (rdV A c ts.length en i nd er (atT ts en i))) ∧ Below w.heap.size w w' := by
  have hb : Below w.heap.size w (w.alloc (.cells (rdV A c ts.length en i nd 0 a) 55)) := (Below.refl _ _).alloc (Nat.le_refl _) _
  by_cases hlt : i < ts.length
  · have HK := Lib.hid (atT_at (en := en) hlt)
    have i0 : (0 : Int) ≤ (i : Int) := by omega
    have i1 : (i : Int) < (ts.length : Int) := by omega
    obtain ⟨g, rfl, hg, _, _, _, k3⟩ := h.at_ hlt
    generalize ts[i].pos = ps at *
    have hk3 : ∀ cs : Array Value, ∀ ds : Array Value, ((w.alloc (.cells cs 55)).alloc (.cells ds 55)).cell? ⟨g, i * 4 + 3, none⟩ = some (.int .i64 ps) := fun cs ds => by
      rw [World.cell?_alloc_past _ _ _ (by simp; omega), World.cell?_alloc_past _ _ _ hg]; exact k3
    clear h hb hg k3
    go_enter Tryd.func31, Tryd.ntmps31
    go_wp2_with (refine wpList_store_new rfl 55 (.tmp 4) (.tmp 27) rfl _ _ (rdV (some ⟨g, 0, none⟩) c ts.length en i nd er ps) rfl rfl rdSize rfl (by simp [Value.oneCell']) ?_)
    refine bodyPost_ret (results_cell_row (P := Tryd.prog) Tryd.results31 _ _ (w.heap.size + 1) 55 (rdV (some ⟨g, 0, none⟩) c ts.length en i nd er ps) (0, 0) _ rfl (heap_alloc2_new w _ _) Tryd.underlying55 rfl rdSize) rfl ?_
    exact ⟨by rw [HK.out], ((Below.refl _ _).alloc (Nat.le_refl _) _).alloc (by simp) _⟩
  · have HK := Lib.hid (atT_end (en := en) (ts := ts) (i := i) (by omega))
    have i1 : ¬ (i : Int) < (ts.length : Int) := by omega
    clear h hb
    go_enter Tryd.func31, Tryd.ntmps31
    go_wp2_with (refine wpList_store_new rfl 55 (.tmp 4) (.tmp 27) rfl _ _ (rdV A c ts.length en i nd er en) rfl rfl rdSize rfl (by simp [Value.oneCell']) ?_)
    refine bodyPost_ret (results_cell_row (P := Tryd.prog) Tryd.results31 _ _ (w.heap.size + 1) 55 (rdV A c ts.length en i nd er en) (0, 0) _ rfl (heap_alloc2_new w _ _) Tryd.underlying55 rfl rdSize) rfl ?_
    exact ⟨by rw [HK.out], ((Below.refl _ _).alloc (Nat.le_refl _) _).alloc (by simp) _⟩
#print axioms rfail_c
end Go.Proofs.YtbjagceopgofiaaDoor
