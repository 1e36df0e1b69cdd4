/-
  lang.Tokens: scan, behind the guard.
-/
import Derived.Test.YtbjagceopgofiaaDoorLexD
import Derived.Test.YtbjagceopgofiaaDoorLexS
import Derived.Test.YtbjagceopgofiaaDoorGuard
namespace Go.Proofs.YtbjagceopgofiaaDoor
open Go.RowKit

theorem own_base {w : World} {base base' : Nat} {e : TypeId} {size : Nat} {v : Value} {n : Nat} {xs : List Value} (h : w.ownsRow base e size v n xs) (hb : base' ≤ base) : w.ownsRow base' e size v n xs := by
  obtain ⟨h1, h2⟩ := h
  refine ⟨h1, ?_⟩
  rcases h2 with h2 | ⟨g, cap, cur, hv, hg, r⟩
  · exact .inl h2
  · exact .inr ⟨g, cap, cur, hv, by omega, r⟩
/-- The two cells of the named results, made at the call's beginning. -/
theorem res_cells {w w1 : World} {o1 o2 : Value} {t1 t2 : TypeId} (hb : Below ((w.alloc (.cells #[o1] t1)).alloc (.cells #[o2] t2)).heap.size ((w.alloc (.cells #[o1] t1)).alloc (.cells #[o2] t2)) w1) :
    w1.heap[w.heap.size]? = some (.cells #[o1] t1 (0, 0)) ∧ w1.heap[w.heap.size + 1]? = some (.cells #[o2] t2 (0, 0)) ∧ w.heap.size + 2 ≤ w1.heap.size := by
  refine ⟨(hb.block _ (by simp; omega)).trans (heap_alloc2_old w _ _), (hb.block _ (by simp)).trans (heap_alloc2_new w _ _), by have := hb.size; simpa using this⟩
theorem below_of2 {w w1 : World} {o1 o2 : Obj} (hb : Below ((w.alloc o1).alloc o2).heap.size ((w.alloc o1).alloc o2) w1) : Below w.heap.size w w1 :=
  (((Below.refl _ _).alloc (Nat.le_refl _) _).alloc (by simp) _).trans (hb.mono (by simp; omega))
theorem guarded_below {be ba : Nat} {e a : Int} {w w' : World} {B : Nat} (h : Guarded be ba e a w w') (hB : B ≤ w.heap.size) (h1 : B ≤ be) (h2 : B ≤ ba) : Below B w w' := by
  obtain ⟨_, _, h3, h4, h5, h6, h7⟩ := h
  exact ⟨h3, h4, h5, h6, fun k hk => h7 k (by omega) (by omega) (by omega)⟩

set_option maxHeartbeats 2000000 in
set_option maxRecDepth 100000 in
theorem tokens_c (s : ByteArray) (w : World) : Calls Tryd.prog 24 #[.string s] w (toksPost w (tokensM s.data.toList)) := by
  cases hR : tokensM s.data.toList with
  | ok ts =>
    have HR := Lib.hid hR
    clear hR
    go_enter_defers Tryd.func24, Tryd.ntmps24
    go_wp2_with fail
    refine (scan_c s _).mono ?_
    intro x w1 hp
    rw [HR.out] at hp
    obtain ⟨v, rfl, ho, hb⟩ := hp
    obtain ⟨hk0, hk1, hsz⟩ := res_cells hb
    have e0 : w1.cell? ⟨w.heap.size, 0, none⟩ = some (.int .i64 0) := cell_of_row _ _ _ _ _ _ hk0
    have f0 : w1.frozen? ⟨w.heap.size, 0, none⟩ = false := frozen_of_row _ _ _ _ _ hk0
    have e1 : w1.cell? ⟨w.heap.size + 1, 0, none⟩ = some (.int .i64 0) := cell_of_row _ _ _ _ _ _ hk1
    have f1 : w1.frozen? ⟨w.heap.size + 1, 0, none⟩ = false := frozen_of_row _ _ _ _ _ hk1
    have HO := Lib.hid (own_base ho (base' := w.heap.size + 2) (by simp))
    have HB := Lib.hid (below_of2 hb)
    clear ho hb hk0 hk1
    go_wp2_with fail
    refine leaves_cons (f := 25) (args := #[.pointer (some ⟨w.heap.size, 0, none⟩), .pointer (some ⟨w.heap.size + 1, 0, none⟩)]) (by simp) (by simp [go_sem]) ?_
    refine (guard_idle _ _ _).mono ?_
    rintro e u' w'' ⟨rfl, rfl, rfl⟩
    simp only [Leaves, settle]
    refine ⟨.tuple #[v, .int .i64 0, .int .i64 0], by simp [results, Tryd.results24, go_sem, e0, e1], v, rfl, ?_, ?_⟩
    · exact own_base (ownsRow_setCell_below (ownsRow_setCell_below HO.out (by simp) _) (by simp) _) (by omega)
    · exact ((HB.out.setCell (p := ⟨w.heap.size, 0, none⟩) (Nat.le_refl _) _).setCell (p := ⟨w.heap.size + 1, 0, none⟩) (by simp) _)
  | error er =>
    obtain ⟨er, p⟩ := er
    have HR := Lib.hid hR
    clear hR
    go_enter_defers Tryd.func24, Tryd.ntmps24
    go_wp2_with fail
    refine (scan_c s _).mono ?_
    intro x w1 hp
    rw [HR.out] at hp
    obtain ⟨rfl, hb⟩ := hp
    obtain ⟨hk0, hk1, hsz⟩ := res_cells hb
    have e0 : w1.cell? ⟨w.heap.size, 0, none⟩ = some (.int .i64 0) := cell_of_row _ _ _ _ _ _ hk0
    have f0 : w1.frozen? ⟨w.heap.size, 0, none⟩ = false := frozen_of_row _ _ _ _ _ hk0
    have e1 : w1.cell? ⟨w.heap.size + 1, 0, none⟩ = some (.int .i64 0) := cell_of_row _ _ _ _ _ _ hk1
    have f1 : w1.frozen? ⟨w.heap.size + 1, 0, none⟩ = false := frozen_of_row _ _ _ _ _ hk1
    have HB := Lib.hid (below_of2 hb)
    clear hb hk0 hk1
    go_wp2_with fail
    refine leaves_cons (f := 25) (args := #[.pointer (some ⟨w.heap.size, 0, none⟩), .pointer (some ⟨w.heap.size + 1, 0, none⟩)]) (by simp) (by simp [go_sem]) ?_
    refine (guard_panicking w.heap.size (w.heap.size + 1) 0 0 er p [] w1 (by omega) (by omega) (by omega) e0 f0 e1 f1).mono ?_
    rintro e u' w2 ⟨rfl, rfl, hg⟩
    have g0 := hg.1
    have g1 := hg.2.1
    simp only [Leaves, settle, List.dropWhile_nil]
    refine ⟨.tuple #[.slice none 0 0, .int .i64 er, .int .i64 p], by simp [results, Tryd.results24, go_sem, g0, g1], rfl, ?_⟩
    exact HB.out.trans (guarded_below hg (by omega) (Nat.le_refl _) (by omega))
#print axioms tokens_c
end Go.Proofs.YtbjagceopgofiaaDoor
