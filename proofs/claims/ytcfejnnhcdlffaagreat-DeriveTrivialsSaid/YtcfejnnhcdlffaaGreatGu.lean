/-
  derive.copied at the step that Trivial makes.
-/
import Derived.Test.YtcfejnnhcdlffaaGreatGt
namespace Go.Proofs.YtcfejnnhcdlffaaGreat
open Go.RowKit Pln

section
variable {P : Program} {ops : Array Oper} {S : World → Prop}
/-- A store that keeps the condition. -/
theorem keep_store {Q : Act → Prop} {a : Act} {o : Oper} {rest : List Oper} (hg : o.guard = none) (hr : ∀ w, S w → ∃ w', (execOp a.eval o).run P w = .ok .skip w' ∧ S w')
    (h : wpKeep P ops S Q rest (a.put o.dst undef)) : wpKeep P ops S Q (o :: rest) a :=
  ⟨undef, .inl ⟨by simp [Region.wanted, hg], fun w hS => by
    obtain ⟨w', h1, h2⟩ := hr w hS
    rw [h1]
    exact ⟨rfl, h2⟩⟩, h⟩
end
theorem stepSize : (Tryz.prog.info? 42).map (·.size) = some 23 := by kernel_rfl
/-- The cells of the step. -/
def stepV (p m : Int) (Am : Option Addr) (n cm : Nat) (N : Int) (A : Option Addr) (nz c : Nat) (low : Int) : List Value :=
  [.int .i64 0, .int .i64 p, .int .i64 m, .slice Am n cm, .int .i64 N, .slice A nz c, .int .i64 low, .slice none 0 0, .slice none 0 0, .int .i64 0, .int .i64 0, .slice none 0 0, .int .i64 0, .int .i64 0, .int .i64 0, .int .i64 0, .int .i64 0, .slice none 0 0, .slice none 0 0, .slice none 0 0, .slice none 0 0, .int .i64 0, .slice none 0 0]
theorem heap_set_same {w : World} {b : Nat} {cs : List Value} {t : TypeId} {fr : Nat × Nat} (h : w.heap[b]? = some (.cells cs.toArray t fr)) (k : Nat) (v : Value) : (w.setCell ⟨b, k, none⟩ v).heap[b]? = some (.cells (cs.set k v).toArray t fr) := by
  simp [World.setCell, Array.getElem?_modify, h]
/-- The boxes of the argument and of the result. -/
structure SBox (w : World) (b : Nat) (cs : List Value) (r : Array Value) (W : World) : Prop where
  below : Below w.heap.size w W
  size : b + 1 < W.heap.size
  lo : w.heap.size ≤ b
  k0 : W.heap[b]? = some (.cells cs.toArray 42 (0, 0))
  k1 : W.heap[b + 1]? = some (.cells r 42 (0, 0))
section
variable {w : World} {b : Nat} {cs : List Value} {r : Array Value} {W W' : World}
theorem SBox.keep (h : SBox w b cs r W) (hb : Below W.heap.size W W') : SBox w b cs r W' := by
  have hs := h.size
  have hl := h.lo
  exact ⟨h.below.trans (hb.mono (by omega)), Nat.lt_of_lt_of_le hs hb.size, hl, (hb.block _ (by omega)).trans h.k0, (hb.block _ (by omega)).trans h.k1⟩
theorem SBox.set (h : SBox w b cs r W) (k : Nat) (v : Value) : SBox w b (cs.set k v) r (W.setCell ⟨b, k, none⟩ v) :=
  ⟨h.below.setCell (p := ⟨b, k, none⟩) h.lo v, by simpa using h.size, h.lo, heap_set_same h.k0 k v, (Below.heap_setCell W ⟨b, k, none⟩ v (b + 1) (by show b + 1 ≠ b; omega)).trans h.k1⟩
theorem SBox.cell (h : SBox w b cs r W) {k : Nat} {v : Value} (hv : cs[k]? = some v) : W.cell? ⟨b, k, none⟩ = some v := by
  rw [cell_of_row W b k _ _ _ h.k0]
  simpa using hv
theorem SBox.frozen (h : SBox w b cs r W) (k : Nat) : W.frozen? ⟨b, k, none⟩ = false := by simp [World.frozen?, h.k0]
end

theorem IntsUp.lower {w : World} {lo lo' : Nat} {A : Option Addr} {zs : List Int} (h : IntsUp w lo A zs) (hl : lo' ≤ lo) : IntsUp w lo' A zs := fun hz => by
  obtain ⟨b, o, e, h1, h2, hc⟩ := h hz
  exact ⟨b, o, e, by omega, h2, hc⟩
theorem RowsUp.lower {w : World} {lo lo' : Nat} {A : Option Addr} {zs : List (List Int)} (h : RowsUp w lo A zs) (hl : lo' ≤ lo) : RowsUp w lo' A zs := fun hz => by
  obtain ⟨b, o, e, h1, h2, hc⟩ := h hz
  refine ⟨b, o, e, by omega, h2, fun i hi => ?_⟩
  obtain ⟨bi, oi, ci, h3, h4, h5⟩ := hc i hi
  exact ⟨bi, oi, ci, h3, by omega, h5⟩
theorem IntsUp.setCell {w : World} {lo : Nat} {A : Option Addr} {zs : List Int} (h : IntsUp w lo A zs) {p : Addr} (hp : p.block < lo) (v : Value) : IntsUp (w.setCell p v) lo A zs :=
  h.of_blocks (by simp) fun k hk _ => Below.heap_setCell w p v k (by omega)
theorem RowsUp.setCell {w : World} {lo : Nat} {A : Option Addr} {zs : List (List Int)} (h : RowsUp w lo A zs) {p : Addr} (hp : p.block < lo) (v : Value) : RowsUp (w.setCell p v) lo A zs :=
  h.of_blocks (by simp) fun k hk _ => Below.heap_setCell w p v k (by omega)
def CutA (w : World) (p m : Int) (mod : List Int) (N : Int) (A : Option Addr) (n c : Nat) (low : Int) (r : Array Value) (v1 : Value) (wx : World) : Prop :=
  ∃ A1 c1, v1 = .pointer (some ⟨w.heap.size, 0, none⟩) ∧ SBox w w.heap.size (stepV p m A1 mod.length c1 N A n c low) r wx ∧ IntsUp wx (w.heap.size + 2) A1 mod
def CutB (w : World) (p m : Int) (mod : List Int) (N : Int) (rows : List (List Nat)) (low : Int) (r : Array Value) (v1 : Value) (wx : World) : Prop :=
  ∃ A1 c1 A2 c2, v1 = .pointer (some ⟨w.heap.size, 0, none⟩) ∧ SBox w w.heap.size (stepV p m A1 mod.length c1 N A2 rows.length c2 low) r wx ∧ IntsUp wx (w.heap.size + 2) A1 mod ∧ RowsUp wx (w.heap.size + 2) A2 (nzs rows)

/-- The copies are made; the boxes stand. -/
def SDone (w : World) (p m : Int) (mod : List Int) (N : Int) (rows : List (List Nat)) (low : Int) (r : Array Value) (A1 : Option Addr) (c1 : Nat) (A2 : Option Addr) (c2 : Nat) (W : World) : Prop :=
  SBox w w.heap.size (stepV p m A1 mod.length c1 N A2 rows.length c2 low) r W ∧ IntsUp W (w.heap.size + 2) A1 mod ∧ RowsUp W (w.heap.size + 2) A2 (nzs rows)
section
variable {w : World} {p m : Int} {mod : List Int} {N : Int} {rows : List (List Nat)} {low : Int} {r : Array Value} {A1 : Option Addr} {c1 : Nat} {A2 : Option Addr} {c2 : Nat} {W : World}
theorem SDone.set (h : SDone w p m mod N rows low r A1 c1 A2 c2 W) (k : Nat) (hk : (stepV p m A1 mod.length c1 N A2 rows.length c2 low).set k (.slice none 0 0) = stepV p m A1 mod.length c1 N A2 rows.length c2 low) : SDone w p m mod N rows low r A1 c1 A2 c2 (W.setCell ⟨w.heap.size, k, none⟩ (.slice none 0 0)) := by
  refine ⟨?_, h.2.1.setCell (p := ⟨w.heap.size, k, none⟩) (by show w.heap.size < _; omega) _, h.2.2.setCell (p := ⟨w.heap.size, k, none⟩) (by show w.heap.size < _; omega) _⟩
  have := h.1.set k (.slice none 0 0)
  rw [hk] at this
  exact this
theorem SDone.drew (h : SDone w p m mod N rows low r A1 c1 A2 c2 W) : SDone w p m mod N rows low r A1 c1 A2 c2 W.drew := ⟨h.1.keep (Below.refl _ _).drew, h.2.1.grow (Below.refl _ _).drew, h.2.2.grow (Below.refl _ _).drew⟩
end

set_option maxHeartbeats 2000000 in
set_option maxRecDepth 100000 in
theorem copied_c (p m : Int) (mod : List Int) (Am : Option Addr) (cm : Nat) (N : Int) (rows : List (List Nat)) (A : Option Addr) (c : Nat) (low : Int) (w : World) (hM : IntsAt w w.heap.size Am mod) (hl : mod.length ≤ 1000000)
    (hA : RowsAt w w.heap.size A (nzs rows)) (hr : ∀ r ∈ rows, 0 < r.length ∧ r.length ≤ 1000000) (hlz : rows.length ≤ 1000000) :
    Calls Tryz.prog 11 #[.agg #[.int .i64 0, .int .i64 p, .int .i64 m, .slice Am mod.length cm, .int .i64 N, .slice A rows.length c, .int .i64 low, .slice none 0 0, .slice none 0 0, .int .i64 0, .int .i64 0, .slice none 0 0, .int .i64 0, .int .i64 0, .int .i64 0, .int .i64 0, .int .i64 0, .slice none 0 0, .slice none 0 0, .slice none 0 0, .slice none 0 0, .int .i64 0, .slice none 0 0]] w
      fun e w' => (∃ A1 c1 A2 c2, e = .returned (.agg (stepV p m A1 mod.length c1 N A2 rows.length c2 low).toArray) ∧ IntsUp w' w.heap.size A1 mod ∧ RowsUp w' w.heap.size A2 (nzs rows)) ∧ Below w.heap.size w w' := by
  have HM := Lib.hid hM
  have HA := Lib.hid hA
  have HR := Lib.hid hr
  clear hM hA hr
  have HX : Hid (SBox w w.heap.size (stepV p m Am mod.length cm N A rows.length c low) #[.int .i64 0, .int .i64 0, .int .i64 0, .slice none 0 0, .int .i64 0, .slice none 0 0, .int .i64 0, .slice none 0 0, .slice none 0 0, .int .i64 0, .int .i64 0, .slice none 0 0, .int .i64 0, .int .i64 0, .int .i64 0, .int .i64 0, .int .i64 0, .slice none 0 0, .slice none 0 0, .slice none 0 0, .slice none 0 0, .int .i64 0, .slice none 0 0]
      ((w.alloc (.cells #[.int .i64 0, .int .i64 p, .int .i64 m, .slice Am mod.length cm, .int .i64 N, .slice A rows.length c, .int .i64 low, .slice none 0 0, .slice none 0 0, .int .i64 0, .int .i64 0, .slice none 0 0, .int .i64 0, .int .i64 0, .int .i64 0, .int .i64 0, .int .i64 0, .slice none 0 0, .slice none 0 0, .slice none 0 0, .slice none 0 0, .int .i64 0, .slice none 0 0] 42)).alloc
        (.cells #[.int .i64 0, .int .i64 0, .int .i64 0, .slice none 0 0, .int .i64 0, .slice none 0 0, .int .i64 0, .slice none 0 0, .slice none 0 0, .int .i64 0, .int .i64 0, .slice none 0 0, .int .i64 0, .int .i64 0, .int .i64 0, .int .i64 0, .int .i64 0, .slice none 0 0, .slice none 0 0, .slice none 0 0, .slice none 0 0, .int .i64 0, .slice none 0 0] 42))) := by
    refine ⟨((Below.refl _ _).alloc (Nat.le_refl _) _).alloc (by simp) _, by simp, Nat.le_refl _, (Below.heap_alloc _ _ _ (by simp)).trans (heap_alloc_new _ _), ?_⟩
    have := heap_alloc_new (w.alloc (.cells #[.int .i64 0, .int .i64 p, .int .i64 m, .slice Am mod.length cm, .int .i64 N, .slice A rows.length c, .int .i64 low, .slice none 0 0, .slice none 0 0, .int .i64 0, .int .i64 0, .slice none 0 0, .int .i64 0, .int .i64 0, .int .i64 0, .int .i64 0, .int .i64 0, .slice none 0 0, .slice none 0 0, .slice none 0 0, .slice none 0 0, .int .i64 0, .slice none 0 0] 42)) (.cells #[.int .i64 0, .int .i64 0, .int .i64 0, .slice none 0 0, .int .i64 0, .slice none 0 0, .int .i64 0, .slice none 0 0, .slice none 0 0, .int .i64 0, .int .i64 0, .slice none 0 0, .int .i64 0, .int .i64 0, .int .i64 0, .int .i64 0, .int .i64 0, .slice none 0 0, .slice none 0 0, .slice none 0 0, .slice none 0 0, .int .i64 0, .slice none 0 0] 42)
    rw [World.size_alloc] at this
    exact this
  go_enter Tryz.func11, Tryz.ntmps11
  go_upto_region 1 with fail
  generalize (w.alloc (.cells #[.int .i64 0, .int .i64 p, .int .i64 m, .slice Am mod.length cm, .int .i64 N, .slice A rows.length c, .int .i64 low, .slice none 0 0, .slice none 0 0, .int .i64 0, .int .i64 0, .slice none 0 0, .int .i64 0, .int .i64 0, .int .i64 0, .int .i64 0, .int .i64 0, .slice none 0 0, .slice none 0 0, .slice none 0 0, .slice none 0 0, .int .i64 0, .slice none 0 0] 42)).alloc
        (.cells #[.int .i64 0, .int .i64 0, .int .i64 0, .slice none 0 0, .int .i64 0, .slice none 0 0, .int .i64 0, .slice none 0 0, .slice none 0 0, .int .i64 0, .int .i64 0, .slice none 0 0, .int .i64 0, .int .i64 0, .int .i64 0, .int .i64 0, .int .i64 0, .slice none 0 0, .slice none 0 0, .slice none 0 0, .slice none 0 0, .int .i64 0, .slice none 0 0] 42) = W0 at *
  obtain ⟨r, hr0⟩ : ∃ r : Array Value, r = #[.int .i64 0, .int .i64 0, .int .i64 0, .slice none 0 0, .int .i64 0, .slice none 0 0, .int .i64 0, .slice none 0 0, .slice none 0 0, .int .i64 0, .int .i64 0, .slice none 0 0, .int .i64 0, .int .i64 0, .int .i64 0, .int .i64 0, .int .i64 0, .slice none 0 0, .slice none 0 0, .slice none 0 0, .slice none 0 0, .int .i64 0, .slice none 0 0] := ⟨_, rfl⟩
  have HR0 := Lib.hid hr0
  rw [← hr0] at HX
  clear hr0
  go_cut [1] (fun v1 wx => CutA w p m mod N A rows.length c low r v1 wx)
  case first =>
    have y3 : W0.cell? ⟨w.heap.size, 3, none⟩ = some (.slice Am mod.length cm) := HX.out.cell rfl
    have y11 : W0.cell? ⟨w.heap.size, 11, none⟩ = some (.slice none 0 0) := HX.out.cell rfl
    have f3 := HX.out.frozen 3
    have f11 := HX.out.frozen 11
    have hws : w.heap.size < W0.heap.size := by have := HX.out.size; omega
    have HZS : Hid (w.heap.size + 2 ≤ W0.heap.size) := HX.out.size
    have HI := Lib.hid (ints_c mod Am cm W0.drew ((HM.out.keep HX.out.below.drew).more HX.out.below.size) hl)
    go_region_law (first
      | (go_simp; (with_reducible refine HI.out.mono ?_); rintro e w1 ⟨⟨A1, c1, rfl, hi1⟩, hb1⟩
         have z3 := (hb1.cell (p := ⟨w.heap.size, 3, none⟩) hws).trans y3
         have z11 := (hb1.cell (p := ⟨w.heap.size, 11, none⟩) hws).trans y11
         have g3 := (hb1.frozen (p := ⟨w.heap.size, 3, none⟩) hws).trans f3
         have g11 := (hb1.frozen (p := ⟨w.heap.size, 11, none⟩) hws).trans f11)
      | (go_simp; (with_reducible refine (ints_nil _).mono ?_); rintro e w2 ⟨rfl, rfl⟩))
    all_goals
      have HY : Hid (CutA w p m mod N A rows.length c low r (.pointer (some ⟨w.heap.size, 0, none⟩)) ((w1.setCell ⟨w.heap.size, 3, none⟩ (.slice A1 mod.length c1)).setCell ⟨w.heap.size, 11, none⟩ (.slice none 0 0))) := by
        have hb1' : Below W0.heap.size W0 w1 := ⟨hb1.os, hb1.tape, hb1.output, hb1.size, hb1.block⟩
        have hi1' : IntsUp w1 W0.heap.size A1 mod := hi1
        exact ⟨A1, c1, rfl, ((HX.out.keep hb1').set 3 (.slice A1 mod.length c1)).set 11 (.slice none 0 0), ((hi1'.lower (lo' := w.heap.size + 2) HZS.out).setCell (p := ⟨w.heap.size, 3, none⟩) (by show w.heap.size < _; omega) _).setCell (p := ⟨w.heap.size, 11, none⟩) (by show w.heap.size < _; omega) _⟩
      clear z3 z11 g3 g11 hi1 hb1 y3 y11 f3 f11
      go_wp2_with fail
      go_meet
      exact HY.out
  case rest =>
    obtain ⟨A1, c1, rfl, hx, hi1⟩ := hcut
    have HX2 := Lib.hid hx
    have HI1 := Lib.hid hi1
    clear hx hi1 HX HM
    clear W0
    go_upto_region 2 with fail
    go_cut [1] (fun v1 wx => CutB w p m mod N rows low r v1 wx)
    case first =>
      have y5 : wc.cell? ⟨w.heap.size, 5, none⟩ = some (.slice A rows.length c) := HX2.out.cell rfl
      have y22 : wc.cell? ⟨w.heap.size, 22, none⟩ = some (.slice none 0 0) := HX2.out.cell rfl
      have f5 := HX2.out.frozen 5
      have f22 := HX2.out.frozen 22
      have hws : w.heap.size < wc.heap.size := by have := HX2.out.size; omega
      have HZS : Hid (w.heap.size + 2 ≤ wc.heap.size) := HX2.out.size
      have HI := Lib.hid (lists_c rows A c wc.drew ((HA.out.keep HX2.out.below.drew).more HX2.out.below.size) HR.out hlz)
      go_region_law (first
        | (go_simp; (with_reducible refine HI.out.mono ?_); rintro e w1 ⟨⟨A2, c2, rfl, hi2⟩, hb1⟩
           have z5 := (hb1.cell (p := ⟨w.heap.size, 5, none⟩) hws).trans y5
           have z22 := (hb1.cell (p := ⟨w.heap.size, 22, none⟩) hws).trans y22
           have g5 := (hb1.frozen (p := ⟨w.heap.size, 5, none⟩) hws).trans f5
           have g22 := (hb1.frozen (p := ⟨w.heap.size, 22, none⟩) hws).trans f22)
        | (go_simp; (with_reducible refine (lists_nil _).mono ?_); rintro e w2 ⟨rfl, rfl⟩))
      all_goals
        have HY : Hid (CutB w p m mod N rows low r (.pointer (some ⟨w.heap.size, 0, none⟩)) ((w1.setCell ⟨w.heap.size, 5, none⟩ (.slice A2 rows.length c2)).setCell ⟨w.heap.size, 22, none⟩ (.slice none 0 0))) := by
          have hb1' : Below wc.heap.size wc w1 := ⟨hb1.os, hb1.tape, hb1.output, hb1.size, hb1.block⟩
          have hi2' : RowsUp w1 wc.heap.size A2 (nzs rows) := hi2
          exact ⟨A1, c1, A2, c2, rfl, ((HX2.out.keep hb1').set 5 (.slice A2 rows.length c2)).set 22 (.slice none 0 0), ((HI1.out.grow hb1').setCell (p := ⟨w.heap.size, 5, none⟩) (by show w.heap.size < _; omega) _).setCell (p := ⟨w.heap.size, 22, none⟩) (by show w.heap.size < _; omega) _, ((hi2'.lower (lo' := w.heap.size + 2) HZS.out).setCell (p := ⟨w.heap.size, 5, none⟩) (by show w.heap.size < _; omega) _).setCell (p := ⟨w.heap.size, 22, none⟩) (by show w.heap.size < _; omega) _⟩
        clear z5 z22 g5 g22 hi2 hb1 y5 y22 f5 f22
        go_wp2_with fail
        go_meet
        exact HY.out
    case rest =>
      obtain ⟨A1, c1, A2, c2, rfl, hx, hi1, hi2⟩ := hcut
      have HD3 : Hid (SDone w p m mod N rows low r A1 c1 A2 c2 wc) := ⟨hx, hi1, hi2⟩
      clear hx hi1 hi2 HX2 HI1 HA HR
      go_upto_region 3 with fail
      refine wp_region_keep (SDone w p m mod N rows low r A1 c1 A2 c2) (by kernel_rfl) (by kernel_rfl) HD3.out.drew ?_
      repeat (first
        | (apply keep_val rfl
           · intro W hS
             have y7 := hS.1.cell (k := 7) (v := .slice none 0 0) rfl
             have y8 := hS.1.cell (k := 8) (v := .slice none 0 0) rfl
             have y17 := hS.1.cell (k := 17) (v := .slice none 0 0) rfl
             have y18 := hS.1.cell (k := 18) (v := .slice none 0 0) rfl
             go_simp
             rfl
           go_simp)
        | (apply keep_call rfl
           · intro W hS
             go_simp
             exact ⟨rfl, rfl⟩
           · intro W hS
             refine (ints_nil W).mono ?_
             rintro e w' ⟨rfl, rfl⟩
             exact ⟨rfl, hS⟩
           go_simp)
        | (apply keep_store rfl
           · intro W hS
             have yk := hS.1.cell (k := 7) (v := .slice none 0 0) rfl
             have fk := hS.1.frozen 7
             refine ⟨W.setCell ⟨w.heap.size, 7, none⟩ (.slice none 0 0), ?_, hS.set 7 rfl⟩
             go_simp
             done
           go_simp)
        | (apply keep_store rfl
           · intro W hS
             have yk := hS.1.cell (k := 8) (v := .slice none 0 0) rfl
             have fk := hS.1.frozen 8
             refine ⟨W.setCell ⟨w.heap.size, 8, none⟩ (.slice none 0 0), ?_, hS.set 8 rfl⟩
             go_simp
             done
           go_simp)
        | (apply keep_store rfl
           · intro W hS
             have yk := hS.1.cell (k := 17) (v := .slice none 0 0) rfl
             have fk := hS.1.frozen 17
             refine ⟨W.setCell ⟨w.heap.size, 17, none⟩ (.slice none 0 0), ?_, hS.set 17 rfl⟩
             go_simp
             done
           go_simp)
        | (apply keep_store rfl
           · intro W hS
             have yk := hS.1.cell (k := 18) (v := .slice none 0 0) rfl
             have fk := hS.1.frozen 18
             refine ⟨W.setCell ⟨w.heap.size, 18, none⟩ (.slice none 0 0), ?_, hS.set 18 rfl⟩
             go_simp
             done
           go_simp))
      refine wpKeep_nil ?_
      intro w3 hS3
      have HD4 := Lib.hid hS3
      clear hS3
      go_upto_region 4 with fail
      refine wp_region_keep (SDone w p m mod N rows low r A1 c1 A2 c2) (by kernel_rfl) (by kernel_rfl) HD4.out.drew ?_
      repeat (first
        | (apply keep_val rfl
           · intro W hS
             have y19 := hS.1.cell (k := 19) (v := .slice none 0 0) rfl
             have y20 := hS.1.cell (k := 20) (v := .slice none 0 0) rfl
             go_simp
             rfl
           go_simp)
        | (apply keep_call rfl
           · intro W hS
             go_simp
             exact ⟨rfl, rfl⟩
           · intro W hS
             refine (ints_nil W).mono ?_
             rintro e w' ⟨rfl, rfl⟩
             exact ⟨rfl, hS⟩
           go_simp)
        | (apply keep_store rfl
           · intro W hS
             have yk := hS.1.cell (k := 19) (v := .slice none 0 0) rfl
             have fk := hS.1.frozen 19
             refine ⟨W.setCell ⟨w.heap.size, 19, none⟩ (.slice none 0 0), ?_, hS.set 19 rfl⟩
             go_simp
             done
           go_simp)
        | (apply keep_store rfl
           · intro W hS
             have yk := hS.1.cell (k := 20) (v := .slice none 0 0) rfl
             have fk := hS.1.frozen 20
             refine ⟨W.setCell ⟨w.heap.size, 20, none⟩ (.slice none 0 0), ?_, hS.set 20 rfl⟩
             go_simp
             done
           go_simp))
      refine wpKeep_nil ?_
      intro w4 hS4
      have HD5 := Lib.hid hS4
      clear hS4
      have HRG := Lib.hid (range_of_row HD5.out.1.k0)
      have HK5 := Lib.hid HD5.out.1.k1
      have HBS : Hid (Below w.heap.size w (w4.setRow (w.heap.size + 1) (stepV p m A1 mod.length c1 N A2 rows.length c2 low).toArray)) := below_setRow HD5.out.1.below (Nat.le_succ _) _
      go_wp2_with (first
        | (refine wpList_load_mid rfl 42 (.tmp 1) rfl w.heap.size 0 rfl (stepV p m A1 mod.length c1 N A2 rows.length c2 low) _ HRG.out Tryz.underlying42 rfl stepSize ?_)
        | (refine wpList_store_row rfl 42 (.tmp 2) (.tmp 57) rfl w4 (w.heap.size + 1) 42 r (stepV p m A1 mod.length c1 N A2 rows.length c2 low).toArray rfl rfl HK5.out stepSize (by rw [HR0.out]; rfl) (by simp [stepV, Value.oneCell']) ?_))
      refine bodyPost_ret (results_cell_row (P := Tryz.prog) rfl _ _ (w.heap.size + 1) 42 (stepV p m A1 mod.length c1 N A2 rows.length c2 low).toArray (0, 0) _ rfl (setRow_same _ _ _ _ _ HK5.out) Tryz.underlying42 rfl stepSize) rfl ?_
      exact ⟨⟨A1, c1, A2, c2, rfl, (HD5.out.2.1.of_blocks (by simp) fun k hk _ => setRow_other w4 _ k _ (by omega)).lower (by omega), (HD5.out.2.2.of_blocks (by simp) fun k hk _ => setRow_other w4 _ k _ (by omega)).lower (by omega)⟩, HBS.out⟩
#print axioms copied_c
end Go.Proofs.YtcfejnnhcdlffaaGreat
