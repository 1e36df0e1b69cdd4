/-
  The reference's Same of steps.
-/
import Derived.Test.YtcfejnnhcdlffaaGreatRsM
namespace Go.Proofs.YtcfejnnhcdlffaaGreat
open Go.RowKit Pln

theorem fsame_nil (w : World) : Calls Tryz.prog 16 #[.agg #[.int .i64 0, .int .i64 0, .slice none 0 0], .agg #[.int .i64 0, .int .i64 0, .slice none 0 0]] w fun e w' => e = .returned (.bool true) ∧ Below w.heap.size w w' :=
  fsame_c 0 0 [] none none 0 0 w (ints_none _ _) (ints_none _ _) (by simp)

set_option maxHeartbeats 2000000 in
set_option maxRecDepth 100000 in
theorem stepsame_c (p m : Int) (mod : List Int) (N : Int) (zs : List (List Int)) (A A' B B' : Option Addr) (c c' d d' : Nat) (low : Int) (w : World) (hA : IntsAt w w.heap.size A mod) (hA' : IntsAt w w.heap.size A' mod) (hl : mod.length ≤ 9223372036854775807)
    (hB : RowsAt w w.heap.size B zs) (hB' : RowsAt w w.heap.size B' zs) (hlz : zs.length ≤ 9223372036854775807) (hr : ∀ k, k < zs.length → (zs.getD k []).length ≤ 9223372036854775807) :
    Calls Tryz.prog 7 #[.agg (stepV p m A mod.length c N B zs.length d low).toArray, .agg (stepV p m A' mod.length c' N B' zs.length d' low).toArray] w fun e w' => e = .returned (.bool true) ∧ Below w.heap.size w w' := by
  have HX := Lib.hid (tb_new w (stepV p m A mod.length c N B zs.length d low) (stepV p m A' mod.length c' N B' zs.length d' low) 42)
  have HA := Lib.hid hA
  have HA' := Lib.hid hA'
  have HB := Lib.hid hB
  have HB' := Lib.hid hB'
  have HR := Lib.hid hr
  clear hA hA' hB hB' hr
  have HC := Lib.hid (csame_c p m mod N zs A A' B B' c c' d d' ((w.alloc (.cells (stepV p m A mod.length c N B zs.length d low).toArray 42)).alloc (.cells (stepV p m A' mod.length c' N B' zs.length d' low).toArray 42)) ((HA.out.keep HX.out.below).more HX.out.below.size) ((HA'.out.keep HX.out.below).more HX.out.below.size) hl ((HB.out.keep HX.out.below).more HX.out.below.size) ((HB'.out.keep HX.out.below).more HX.out.below.size) hlz HR.out)
  clear HA HA' HB HB' HR
  have a0 : ((w.alloc (.cells (stepV p m A mod.length c N B zs.length d low).toArray 42)).alloc (.cells (stepV p m A' mod.length c' N B' zs.length d' low).toArray 42)).cell? ⟨w.heap.size, 0, none⟩ = some (.int .i64 0) := HX.out.cell rfl
  have d0 : ((w.alloc (.cells (stepV p m A mod.length c N B zs.length d low).toArray 42)).alloc (.cells (stepV p m A' mod.length c' N B' zs.length d' low).toArray 42)).cell? ⟨w.heap.size + 1, 0, none⟩ = some (.int .i64 0) := HX.out.cell1 rfl
  have a1 : ((w.alloc (.cells (stepV p m A mod.length c N B zs.length d low).toArray 42)).alloc (.cells (stepV p m A' mod.length c' N B' zs.length d' low).toArray 42)).cell? ⟨w.heap.size, 1, none⟩ = some (.int .i64 p) := HX.out.cell rfl
  have d1 : ((w.alloc (.cells (stepV p m A mod.length c N B zs.length d low).toArray 42)).alloc (.cells (stepV p m A' mod.length c' N B' zs.length d' low).toArray 42)).cell? ⟨w.heap.size + 1, 1, none⟩ = some (.int .i64 p) := HX.out.cell1 rfl
  have a2 : ((w.alloc (.cells (stepV p m A mod.length c N B zs.length d low).toArray 42)).alloc (.cells (stepV p m A' mod.length c' N B' zs.length d' low).toArray 42)).cell? ⟨w.heap.size, 2, none⟩ = some (.int .i64 m) := HX.out.cell rfl
  have d2 : ((w.alloc (.cells (stepV p m A mod.length c N B zs.length d low).toArray 42)).alloc (.cells (stepV p m A' mod.length c' N B' zs.length d' low).toArray 42)).cell? ⟨w.heap.size + 1, 2, none⟩ = some (.int .i64 m) := HX.out.cell1 rfl
  have a3 : ((w.alloc (.cells (stepV p m A mod.length c N B zs.length d low).toArray 42)).alloc (.cells (stepV p m A' mod.length c' N B' zs.length d' low).toArray 42)).cell? ⟨w.heap.size, 3, none⟩ = some (.slice A mod.length c) := HX.out.cell rfl
  have d3 : ((w.alloc (.cells (stepV p m A mod.length c N B zs.length d low).toArray 42)).alloc (.cells (stepV p m A' mod.length c' N B' zs.length d' low).toArray 42)).cell? ⟨w.heap.size + 1, 3, none⟩ = some (.slice A' mod.length c') := HX.out.cell1 rfl
  have a4 : ((w.alloc (.cells (stepV p m A mod.length c N B zs.length d low).toArray 42)).alloc (.cells (stepV p m A' mod.length c' N B' zs.length d' low).toArray 42)).cell? ⟨w.heap.size, 4, none⟩ = some (.int .i64 N) := HX.out.cell rfl
  have d4 : ((w.alloc (.cells (stepV p m A mod.length c N B zs.length d low).toArray 42)).alloc (.cells (stepV p m A' mod.length c' N B' zs.length d' low).toArray 42)).cell? ⟨w.heap.size + 1, 4, none⟩ = some (.int .i64 N) := HX.out.cell1 rfl
  have a5 : ((w.alloc (.cells (stepV p m A mod.length c N B zs.length d low).toArray 42)).alloc (.cells (stepV p m A' mod.length c' N B' zs.length d' low).toArray 42)).cell? ⟨w.heap.size, 5, none⟩ = some (.slice B zs.length d) := HX.out.cell rfl
  have d5 : ((w.alloc (.cells (stepV p m A mod.length c N B zs.length d low).toArray 42)).alloc (.cells (stepV p m A' mod.length c' N B' zs.length d' low).toArray 42)).cell? ⟨w.heap.size + 1, 5, none⟩ = some (.slice B' zs.length d') := HX.out.cell1 rfl
  go_enter Tryz.func7, Tryz.ntmps7
  go_wp2_with fail
  (with_reducible refine HC.out.mono ?_)
  rintro e w1 ⟨rfl, hb⟩
  have HX1 := Lib.hid (HX.out.grow hb)
  clear hb HC HX a0 d0 a1 d1 a2 d2 a3 d3 a4 d4 a5 d5
  have a6 : w1.cell? ⟨w.heap.size, 6, none⟩ = some (.int .i64 low) := HX1.out.cell rfl
  have d6 : w1.cell? ⟨w.heap.size + 1, 6, none⟩ = some (.int .i64 low) := HX1.out.cell1 rfl
  have a7 : w1.cell? ⟨w.heap.size, 7, none⟩ = some (.slice none 0 0) := HX1.out.cell rfl
  have d7 : w1.cell? ⟨w.heap.size + 1, 7, none⟩ = some (.slice none 0 0) := HX1.out.cell1 rfl
  have HC := Lib.hid (rsame_nil w1)
  go_wp2_with fail
  (with_reducible refine HC.out.mono ?_)
  rintro e w2 ⟨rfl, hb⟩
  have HX2 := Lib.hid (HX1.out.grow hb)
  clear hb HC HX1 a6 d6 a7 d7
  have a8 : w2.cell? ⟨w.heap.size, 8, none⟩ = some (.slice none 0 0) := HX2.out.cell rfl
  have d8 : w2.cell? ⟨w.heap.size + 1, 8, none⟩ = some (.slice none 0 0) := HX2.out.cell1 rfl
  have HC := Lib.hid (rsame_nil w2)
  go_wp2_with fail
  (with_reducible refine HC.out.mono ?_)
  rintro e w3 ⟨rfl, hb⟩
  have HX3 := Lib.hid (HX2.out.grow hb)
  clear hb HC HX2 a8 d8
  have a9 : w3.cell? ⟨w.heap.size, 9, none⟩ = some (.int .i64 0) := HX3.out.cell rfl
  have d9 : w3.cell? ⟨w.heap.size + 1, 9, none⟩ = some (.int .i64 0) := HX3.out.cell1 rfl
  have a10 : w3.cell? ⟨w.heap.size, 10, none⟩ = some (.int .i64 0) := HX3.out.cell rfl
  have d10 : w3.cell? ⟨w.heap.size + 1, 10, none⟩ = some (.int .i64 0) := HX3.out.cell1 rfl
  have a11 : w3.cell? ⟨w.heap.size, 11, none⟩ = some (.slice none 0 0) := HX3.out.cell rfl
  have d11 : w3.cell? ⟨w.heap.size + 1, 11, none⟩ = some (.slice none 0 0) := HX3.out.cell1 rfl
  have HC := Lib.hid (fsame_nil w3)
  go_wp2_with fail
  (with_reducible refine HC.out.mono ?_)
  rintro e w4 ⟨rfl, hb⟩
  have HX4 := Lib.hid (HX3.out.grow hb)
  clear hb HC HX3 a9 d9 a10 d10 a11 d11
  have a12 : w4.cell? ⟨w.heap.size, 12, none⟩ = some (.int .i64 0) := HX4.out.cell rfl
  have d12 : w4.cell? ⟨w.heap.size + 1, 12, none⟩ = some (.int .i64 0) := HX4.out.cell1 rfl
  have a13 : w4.cell? ⟨w.heap.size, 13, none⟩ = some (.int .i64 0) := HX4.out.cell rfl
  have d13 : w4.cell? ⟨w.heap.size + 1, 13, none⟩ = some (.int .i64 0) := HX4.out.cell1 rfl
  have a14 : w4.cell? ⟨w.heap.size, 14, none⟩ = some (.int .i64 0) := HX4.out.cell rfl
  have d14 : w4.cell? ⟨w.heap.size + 1, 14, none⟩ = some (.int .i64 0) := HX4.out.cell1 rfl
  have a15 : w4.cell? ⟨w.heap.size, 15, none⟩ = some (.int .i64 0) := HX4.out.cell rfl
  have d15 : w4.cell? ⟨w.heap.size + 1, 15, none⟩ = some (.int .i64 0) := HX4.out.cell1 rfl
  have a16 : w4.cell? ⟨w.heap.size, 16, none⟩ = some (.int .i64 0) := HX4.out.cell rfl
  have d16 : w4.cell? ⟨w.heap.size + 1, 16, none⟩ = some (.int .i64 0) := HX4.out.cell1 rfl
  have a17 : w4.cell? ⟨w.heap.size, 17, none⟩ = some (.slice none 0 0) := HX4.out.cell rfl
  have d17 : w4.cell? ⟨w.heap.size + 1, 17, none⟩ = some (.slice none 0 0) := HX4.out.cell1 rfl
  have HC := Lib.hid (rsame_nil w4)
  go_wp2_with fail
  (with_reducible refine HC.out.mono ?_)
  rintro e w5 ⟨rfl, hb⟩
  have HX5 := Lib.hid (HX4.out.grow hb)
  clear hb HC HX4 a12 d12 a13 d13 a14 d14 a15 d15 a16 d16 a17 d17
  have a18 : w5.cell? ⟨w.heap.size, 18, none⟩ = some (.slice none 0 0) := HX5.out.cell rfl
  have d18 : w5.cell? ⟨w.heap.size + 1, 18, none⟩ = some (.slice none 0 0) := HX5.out.cell1 rfl
  have HC := Lib.hid (rsame_nil w5)
  go_wp2_with fail
  (with_reducible refine HC.out.mono ?_)
  rintro e w6 ⟨rfl, hb⟩
  have HX6 := Lib.hid (HX5.out.grow hb)
  clear hb HC HX5 a18 d18
  have a19 : w6.cell? ⟨w.heap.size, 19, none⟩ = some (.slice none 0 0) := HX6.out.cell rfl
  have d19 : w6.cell? ⟨w.heap.size + 1, 19, none⟩ = some (.slice none 0 0) := HX6.out.cell1 rfl
  have a20 : w6.cell? ⟨w.heap.size, 20, none⟩ = some (.slice none 0 0) := HX6.out.cell rfl
  have d20 : w6.cell? ⟨w.heap.size + 1, 20, none⟩ = some (.slice none 0 0) := HX6.out.cell1 rfl
  have a21 : w6.cell? ⟨w.heap.size, 21, none⟩ = some (.int .i64 0) := HX6.out.cell rfl
  have d21 : w6.cell? ⟨w.heap.size + 1, 21, none⟩ = some (.int .i64 0) := HX6.out.cell1 rfl
  have HC := Lib.hid (msame_c w6)
  go_wp2_with fail
  (with_reducible refine HC.out.mono ?_)
  rintro e w7 ⟨rfl, hb⟩
  have HX7 := Lib.hid (HX6.out.grow hb)
  clear hb HC HX6 a19 d19 a20 d20 a21 d21
  have a22 : w7.cell? ⟨w.heap.size, 22, none⟩ = some (.slice none 0 0) := HX7.out.cell rfl
  have d22 : w7.cell? ⟨w.heap.size + 1, 22, none⟩ = some (.slice none 0 0) := HX7.out.cell1 rfl
  have HC := Lib.hid (xsame_c w7)
  go_wp2_with fail
  (with_reducible refine HC.out.mono ?_)
  rintro e w8 ⟨rfl, hb⟩
  have HX8 := Lib.hid (HX7.out.grow hb)
  clear hb HC HX7 a22 d22
  go_wp2_with fail
  go_ret
  exact ⟨rfl, HX8.out.below⟩
#print axioms stepsame_c
end Go.Proofs.YtcfejnnhcdlffaaGreat

/-
  The reference's Few.
-/
namespace Go.Proofs.YtcfejnnhcdlffaaGreat
open Go.RowKit Pln

/-- One box. -/
def OB (w : World) (cs : List Value) (t : TypeId) (W : World) : Prop := W.heap[w.heap.size]? = some (.cells cs.toArray t (0, 0)) ∧ Below w.heap.size w W ∧ w.heap.size < W.heap.size
section
variable {w : World} {cs : List Value} {t : TypeId} {W W' : World}
theorem OB.grow (h : OB w cs t W) (hb : Below W.heap.size W W') : OB w cs t W' := by
  obtain ⟨h1, h3, h4⟩ := h
  exact ⟨(hb.block _ (by omega)).trans h1, h3.trans (hb.mono (by omega)), Nat.lt_of_lt_of_le h4 hb.size⟩
theorem OB.below (h : OB w cs t W) : Below w.heap.size w W := h.2.1
theorem OB.cell (h : OB w cs t W) {k : Nat} {v : Value} (hv : cs[k]? = some v) : W.cell? ⟨w.heap.size, k, none⟩ = some v := by
  rw [cell_of_row W w.heap.size k _ _ _ h.1]
  simpa using hv
theorem OB.range (h : OB w cs t W) : W.rangeAt w.heap.size 0 cs := range_of_row h.1
end
theorem ob_new (w : World) (cs : List Value) (t : TypeId) : OB w cs t (w.alloc (.cells cs.toArray t)) := ⟨heap_alloc_new _ _, (Below.refl _ _).alloc (Nat.le_refl _) _, by simp⟩
def RelFew (w : World) (cs : List Value) (t : TypeId) (n : Nat) (v5 v6 : Value) (wr : World) : Prop := ∃ (k : Nat) (l : Int), k ≤ n ∧ 0 ≤ l ∧ l ≤ 4200 ∧ v5 = .int .i64 l ∧ v6 = .int .i64 k ∧ OB w cs t wr

set_option maxHeartbeats 1000000 in
set_option maxRecDepth 100000 in
theorem rfew_c (zs : List (List Int)) (A : Option Addr) (c : Nat) (w : World) (hA : RowsAt w w.heap.size A zs) (hl : zs.length ≤ 64) :
    Calls Tryz.prog 9 #[.agg #[.int .i64 0, .slice A zs.length c], .int .i64 4200] w fun e w' => ∃ b, e = .returned (.bool b) ∧ Below w.heap.size w w' := by
  have HX := Lib.hid (ob_new w [.int .i64 0, .slice A zs.length c] 47)
  have HA := Lib.hid hA
  clear hA
  go_enter Tryz.func9, Tryz.ntmps9
  go_upto_region 1 with fail
  generalize w.alloc (.cells #[.int .i64 0, .slice A zs.length c] 47) = W0 at *
  have a0 : W0.cell? ⟨w.heap.size, 0, none⟩ = some (.int .i64 0) := HX.out.cell rfl
  have a1 : W0.cell? ⟨w.heap.size, 1, none⟩ = some (.slice A zs.length c) := HX.out.cell rfl
  have k9 : ¬ (4200 : Int) < (zs.length : Int) := by omega
  go_wp2_with fail
  go_loopw [5, 6] (fun v5 v6 wr => RelFew w [.int .i64 0, .slice A zs.length c] 47 zs.length v5 v6 wr) (fun _ v6 _ => zs.length - (intOf v6).toNat)
  case atStart => exact ⟨0, 4200 - (zs.length : Int), by omega, by omega, by omega, by go_num, rfl, HX.out⟩
  case round =>
    clear a0 a1 HX
    obtain ⟨k, l, hk, l0, l1, rfl, rfl, hx⟩ := hrel
    have HX := Lib.hid hx
    clear hx
    have a1 : wr.cell? ⟨w.heap.size, 1, none⟩ = some (.slice A zs.length c) := HX.out.cell rfl
    by_cases hlt : k < zs.length
    · obtain ⟨b, o, Ai, ci, rfl, hb, hc, hi⟩ := (HA.out.keep HX.out.below).at_ hlt
      clear hi
      have hn0 : (0 : Int) ≤ ((zs.getD k []).length : Int) := by omega
      generalize (zs.getD k []).length = n at *
      have k0 : (0 : Int) ≤ (k : Int) := by omega
      have k1 : (k : Int) < (zs.length : Int) := by omega
      by_cases hn : l < (n : Int)
      · go_wp2_with fail
        go_ret
        exact ⟨_, rfl, HX.out.below⟩
      · go_wp2_with fail
        go_roundw
        case rel => exact ⟨k + 1, l - n, by omega, by omega, by omega, by go_num, by go_num, HX.out⟩
        case measure => simp [intOf]; omega
    · obtain rfl : k = zs.length := by omega
      go_wp2_with fail
      go_ret
      exact ⟨_, rfl, HX.out.below⟩
#print axioms rfew_c

set_option maxHeartbeats 1000000 in
set_option maxRecDepth 100000 in
theorem few_c (v0 v1 v2 v3 : Value) (zs : List (List Int)) (A : Option Addr) (c : Nat) (w : World) (hA : RowsAt w w.heap.size A zs) (hl : zs.length ≤ 64) :
    Calls Tryz.prog 4 #[.agg #[v0, v1, v2, v3, .slice A zs.length c], .int .i64 4200] w fun e w' => ∃ b, e = .returned (.bool b) ∧ Below w.heap.size w w' := by
  have HX := Lib.hid (ob_new w [v0, v1, v2, v3, .slice A zs.length c] 27)
  have HA := Lib.hid hA
  clear hA
  go_enter Tryz.func4, Tryz.ntmps4
  go_upto_region 1 with fail
  generalize w.alloc (.cells #[v0, v1, v2, v3, .slice A zs.length c] 27) = W0 at *
  have a1 : W0.cell? ⟨w.heap.size, 4, none⟩ = some (.slice A zs.length c) := HX.out.cell rfl
  have HC := Lib.hid (rfew_c zs A c W0 ((HA.out.keep HX.out.below).more HX.out.below.size) hl)
  go_wp2_with fail
  (with_reducible refine HC.out.mono ?_)
  rintro e w1 ⟨b, rfl, hb1⟩
  have HX1 := Lib.hid (HX.out.grow hb1)
  clear hb1
  go_wp2_with fail
  go_ret
  exact ⟨_, rfl, HX1.out.below⟩
#print axioms few_c
end Go.Proofs.YtcfejnnhcdlffaaGreat

/-
  THE LAW.
-/
namespace Go.Proofs.YtcfejnnhcdlffaaGreat
open Go.RowKit Pln

section
variable {P : Program} {ops : Array Oper} {S : World → Prop}
/-- The load of a struct that lies in every world, under a guard that is met. -/
theorem keep_gload_mid {Q : Act → Prop} {a : Act} {o : Oper} {rest : List Oper} (hg : Region.wanted o (yielded ops a.tmps) = true) (ty : TypeId) (x : Operand) (ho : o.op = .load ty x)
    (b off : Nat) (hx : a.eval x = .pointer (some ⟨b, off, none⟩)) (cs : List Value) (d : TypeDesc) (hS : ∀ w, S w → w.rangeAt b off cs)
    (hu : P.underlying ty = some d) (hd : d.isRow = true) (hi : (P.info? ty).map (·.size) = some cs.length)
    (h : wpKeep P ops S Q rest (a.put o.dst (.agg cs.toArray))) : wpKeep P ops S Q (o :: rest) a :=
  keep_gval hg (fun W hW => by
    unfold execOp
    simp only [ho, hx, Instr.loadAt, Instr.sureAddr, Sem.run_bind, Sem.run_pure, Result.andThen_ok, run_loadVar_mid W b off ty cs d (hS W hW) hu hd hi]) h
end
def LSw (w3 W : World) : Prop := Below w3.heap.size w3 W
theorem code_rows {p m : Int} {mod : List Int} {N : Int} {zs : List (List Int)} (h : codeZ p m mod N zs = 0) (k : Nat) (hk : k < zs.length) : (zs.getD k []).length ≤ 9223372036854775807 := by
  obtain ⟨hf, _, _, hsp⟩ := code_ok h
  obtain ⟨hcz, hnz⟩ := sp_ok hf hsp
  have he : errC p m mod N zs = 0 := by unfold errC; rw [if_pos hf]; exact hcz
  have := canZ_rows he k
  rw [hnz] at this
  exact this hk

set_option maxHeartbeats 2000000 in
set_option maxRecDepth 100000 in
theorem law_c (p m : Int) (mod : List Int) (Am : Option Addr) (cm : Nat) (N : Int) (zs : List (List Int)) (A : Option Addr) (c : Nat) (w : World) (hM : IntsAt w w.heap.size Am mod) (hl : mod.length ≤ 9223372036854775807)
    (hA : RowsAt w w.heap.size A zs) (hlz : zs.length ≤ 9223372036854775807) :
    Calls Tryz.prog 3 #[.agg #[.int .i64 p, .int .i64 m, .slice Am mod.length cm, .int .i64 N, .slice A zs.length c]] w fun e w' => e = .returned (.bool true) ∧ Below w.heap.size w w' := by
  have HX := Lib.hid (ob_new w [.int .i64 p, .int .i64 m, .slice Am mod.length cm, .int .i64 N, .slice A zs.length c] 27)
  have HM := Lib.hid hM
  have HA := Lib.hid hA
  clear hM hA
  go_enter Tryz.func3, Tryz.ntmps3
  go_upto_region 1 with fail
  generalize w.alloc (.cells #[.int .i64 p, .int .i64 m, .slice Am mod.length cm, .int .i64 N, .slice A zs.length c] 27) = W0 at *
  have a4 : W0.cell? ⟨w.heap.size, 4, none⟩ = some (.slice A zs.length c) := HX.out.cell rfl
  by_cases h64 : (64 : Int) < (zs.length : Int)
  · go_wp2_with fail
    go_ret
    exact ⟨rfl, HX.out.below⟩
  have a0 : W0.cell? ⟨w.heap.size, 0, none⟩ = some (.int .i64 p) := HX.out.cell rfl
  have a1 : W0.cell? ⟨w.heap.size, 1, none⟩ = some (.int .i64 m) := HX.out.cell rfl
  have a2 : W0.cell? ⟨w.heap.size, 2, none⟩ = some (.slice Am mod.length cm) := HX.out.cell rfl
  have a3 : W0.cell? ⟨w.heap.size, 3, none⟩ = some (.int .i64 N) := HX.out.cell rfl
  have HC := Lib.hid (few_c (.int .i64 p) (.int .i64 m) (.slice Am mod.length cm) (.int .i64 N) zs A c W0 ((HA.out.keep HX.out.below).more HX.out.below.size) (by omega))
  go_wp2_with fail
  (with_reducible refine HC.out.mono ?_)
  rintro e w1 ⟨bo, rfl, hb1⟩
  have HX1 := Lib.hid (HX.out.grow hb1)
  clear hb1 HX HC a0 a1 a2 a3 a4
  clear W0
  cases bo
  · go_wp2_with fail
    go_ret
    exact ⟨rfl, HX1.out.below⟩
  have HRG := Lib.hid HX1.out.range
  have HC := Lib.hid (trivial_c p m mod Am cm N zs A c w1 ((HM.out.keep HX1.out.below).more HX1.out.below.size) hl ((HA.out.keep HX1.out.below).more HX1.out.below.size) hlz)
  go_wp2_with (refine wpList_load_mid rfl 27 (.tmp 1) rfl w.heap.size 0 rfl [.int .i64 p, .int .i64 m, .slice Am mod.length cm, .int .i64 N, .slice A zs.length c] _ HRG.out Tryz.underlying27 rfl codeSize ?_)
  (with_reducible refine HC.out.mono ?_)
  rintro e w2 ⟨hb2, ht⟩
  have HX2 := Lib.hid (HX1.out.grow hb2)
  clear hb2 HX1 HC HRG
  clear w1
  have HRG := Lib.hid HX2.out.range
  have HC := Lib.hid (rcodecheck_c p m mod Am cm N zs A c w2 ((HM.out.keep HX2.out.below).more HX2.out.below.size) hl ((HA.out.keep HX2.out.below).more HX2.out.below.size) hlz)
  rcases ht with ⟨hz, rfl⟩ | ⟨hz, b, A1, c1, A2, c2, rfl, hst, hi, hr⟩
  · have hzb : (codeZ p m mod N zs != 0) = true := by rw [bne_iff_ne]; exact hz
    have hze : (codeZ p m mod N zs == codeZ p m mod N zs) = true := by rw [beq_iff_eq]
    clear hz
    go_wp2_with (refine wpList_load_mid rfl 27 (.tmp 1) rfl w.heap.size 0 rfl [.int .i64 p, .int .i64 m, .slice Am mod.length cm, .int .i64 N, .slice A zs.length c] _ HRG.out Tryz.underlying27 rfl codeSize ?_)
    (with_reducible refine HC.out.mono ?_)
    rintro e w3 ⟨rfl, hb3⟩
    have HX3 := Lib.hid (HX2.out.grow hb3)
    clear hb3 HX2 HC HRG
    clear w2
    have HRG := Lib.hid HX3.out.range
    have HC := Lib.hid (rcodecheck_c p m mod Am cm N zs A c w3 ((HM.out.keep HX3.out.below).more HX3.out.below.size) hl ((HA.out.keep HX3.out.below).more HX3.out.below.size) hlz)
    go_wp2_with (refine wpList_load_mid rfl 27 (.tmp 1) rfl w.heap.size 0 rfl [.int .i64 p, .int .i64 m, .slice Am mod.length cm, .int .i64 N, .slice A zs.length c] _ HRG.out Tryz.underlying27 rfl codeSize ?_)
    (with_reducible refine HC.out.mono ?_)
    rintro e w4 ⟨rfl, hb4⟩
    have HX4 := Lib.hid (HX3.out.grow hb4)
    clear hb4
    go_wp2_with fail
    go_ret
    exact ⟨rfl, HX4.out.below⟩
  · have HST := Lib.hid hst
    have HI := Lib.hid hi
    have HR := Lib.hid hr
    have hbl2 := block_lt hst
    have HZ := Lib.hid hz
    have HROW : Hid (∀ k, k < zs.length → (zs.getD k []).length ≤ 9223372036854775807) := fun k hk => code_rows HZ.out k hk
    obtain ⟨_, hN1, hN2, _⟩ := code_ok hz
    rw [hz] at HC
    clear hst hi hr hz
    go_wp2_with (refine wpList_load_mid rfl 27 (.tmp 1) rfl w.heap.size 0 rfl [.int .i64 p, .int .i64 m, .slice Am mod.length cm, .int .i64 N, .slice A zs.length c] _ HRG.out Tryz.underlying27 rfl codeSize ?_)
    (with_reducible refine HC.out.mono ?_)
    rintro e w3 ⟨rfl, hb3⟩
    have HX3 := Lib.hid (HX2.out.grow hb3)
    have HS3 := Lib.hid ((hb3.block _ hbl2).trans HST.out)
    have HI3 := Lib.hid ((HI.out.keep hb3).more hb3.size)
    have HR3 := Lib.hid ((HR.out.keep hb3).more hb3.size)
    have HM3 := Lib.hid ((HM.out.keep HX3.out.below).more HX3.out.below.size)
    have HA3 := Lib.hid ((HA.out.keep HX3.out.below).more HX3.out.below.size)
    have hbl : b < w3.heap.size := Nat.lt_of_lt_of_le hbl2 hb3.size
    clear hb3 HX2 HC HRG HST HI HR HM HA hbl2
    clear w2
    have a4 : w3.cell? ⟨w.heap.size, 4, none⟩ = some (.slice A zs.length c) := HX3.out.cell rfl
    have a1 : w3.cell? ⟨w.heap.size, 3, none⟩ = some (.int .i64 N) := HX3.out.cell rfl
    by_cases hn : zs.length = 0
    · have hnb : ((zs.length : Int) == 0) = true := by rw [beq_iff_eq]; omega
      have hlow : lowZ N zs.length = N + 1 := by unfold lowZ; rw [if_pos hn]
      rw [hlow] at HS3
      clear hlow
      have HC7 : Hid (∀ W, LSw w3 W → Calls Tryz.prog 7 #[.agg (stepV p m A1 mod.length c1 N A2 zs.length c2 (N + 1)).toArray, .agg (stepV p m Am mod.length cm N A zs.length c (N + 1)).toArray] W fun e w' => e = .returned (.bool true) ∧ LSw w3 w') := fun W hW =>
        (stepsame_c p m mod N zs A1 Am A2 A c1 cm c2 c (N + 1) W ((HI3.out.keep hW).more hW.size) ((HM3.out.keep hW).more hW.size) hl ((HR3.out.keep hW).more hW.size) ((HA3.out.keep hW).more hW.size) (by omega) HROW.out).mono fun e w' ⟨he, hb⟩ => ⟨he, hW.trans (hb.mono hW.size)⟩
      have HC8 : Hid (∀ W, LSw w3 W → Calls Tryz.prog 8 #[.slice (some ⟨b, 0, none⟩) 1 1] W fun e w' => e = .returned (.int .i64 0) ∧ LSw w3 w') := fun W hW =>
        (dcheck_c p m mod A1 c1 N zs A2 c2 (N + 1) b 1 W ((HI3.out.keep hW).more hW.size) hl ((HR3.out.keep hW).more hW.size) (by omega) HZ.out hN1 hN2 (by omega) (by omega) (by omega) ((hW.block _ hbl).trans HS3.out)).mono fun e w' ⟨he, hb⟩ => ⟨he, hW.trans (hb.mono hW.size)⟩
      have HRS : Hid (∀ W, LSw w3 W → W.rangeAt b 0 (stepV p m A1 mod.length c1 N A2 zs.length c2 (N + 1))) := fun W hW => range_of_row ((hW.block _ hbl).trans HS3.out)
      have HRC : Hid (∀ W, LSw w3 W → W.rangeAt w.heap.size 0 [.int .i64 p, .int .i64 m, .slice Am mod.length cm, .int .i64 N, .slice A zs.length c]) := fun W hW => (HX3.out.grow hW).range
      clear HI3 HM3 HR3 HA3 HROW HZ HS3
      go_upto_region 9 with fail
      refine wp_region_keep (LSw w3) (by kernel_rfl) (by kernel_rfl) ((Below.refl _ _).drew) ?_
      repeat (first
        | (refine keep_gload_mid rfl 42 (.tmp 48) rfl b 0 rfl (stepV p m A1 mod.length c1 N A2 zs.length c2 (N + 1)) _ HRS.out Tryz.underlying42 rfl stepSize ?_
           go_simp)
        | (refine keep_gload_mid rfl 27 (.tmp 1) rfl w.heap.size 0 rfl [.int .i64 p, .int .i64 m, .slice Am mod.length cm, .int .i64 N, .slice A zs.length c] _ HRC.out Tryz.underlying27 rfl codeSize ?_
           go_simp)
        | (refine keep_gcall (v := .bool true) (f := 7) (args := #[.agg (stepV p m A1 mod.length c1 N A2 zs.length c2 (N + 1)).toArray, .agg (stepV p m Am mod.length cm N A zs.length c (N + 1)).toArray]) rfl ?_ (fun W hW => HC7.out W hW) ?_
           · intro W hS
             go_simp
             try first | rfl | exact ⟨rfl, rfl⟩
           go_simp)
        | (apply keep_gcall rfl
           · intro W hS
             go_simp
             exact ⟨rfl, rfl⟩
           · intro W hS
             exact HC8.out W hS
           go_simp)
        | (apply keep_val rfl
           · intro W hS
             go_simp
             rfl
           go_simp)
        | (apply keep_gval rfl
           · intro W hS
             go_simp
             rfl
           go_simp)
        | (apply keep_not rfl; go_simp))
      refine wpKeep_nil ?_
      intro w4 hS4
      have HB4 := Lib.hid (HX3.out.below.trans (hS4.mono (Nat.le_of_lt HX3.out.2.2)))
      go_wp2_with fail
      go_ret
      exact ⟨rfl, HB4.out⟩
    · have hnb : ((zs.length : Int) == 0) = false := by rw [beq_eq_false_iff_ne]; omega
      have hlow : lowZ N zs.length = 1 := by unfold lowZ; rw [if_neg hn]
      rw [hlow] at HS3
      clear hlow
      have HC7 : Hid (∀ W, LSw w3 W → Calls Tryz.prog 7 #[.agg (stepV p m A1 mod.length c1 N A2 zs.length c2 1).toArray, .agg (stepV p m Am mod.length cm N A zs.length c 1).toArray] W fun e w' => e = .returned (.bool true) ∧ LSw w3 w') := fun W hW =>
        (stepsame_c p m mod N zs A1 Am A2 A c1 cm c2 c (1) W ((HI3.out.keep hW).more hW.size) ((HM3.out.keep hW).more hW.size) hl ((HR3.out.keep hW).more hW.size) ((HA3.out.keep hW).more hW.size) (by omega) HROW.out).mono fun e w' ⟨he, hb⟩ => ⟨he, hW.trans (hb.mono hW.size)⟩
      have HC8 : Hid (∀ W, LSw w3 W → Calls Tryz.prog 8 #[.slice (some ⟨b, 0, none⟩) 1 1] W fun e w' => e = .returned (.int .i64 0) ∧ LSw w3 w') := fun W hW =>
        (dcheck_c p m mod A1 c1 N zs A2 c2 (1) b 1 W ((HI3.out.keep hW).more hW.size) hl ((HR3.out.keep hW).more hW.size) (by omega) HZ.out hN1 hN2 (by omega) (by omega) (by omega) ((hW.block _ hbl).trans HS3.out)).mono fun e w' ⟨he, hb⟩ => ⟨he, hW.trans (hb.mono hW.size)⟩
      have HRS : Hid (∀ W, LSw w3 W → W.rangeAt b 0 (stepV p m A1 mod.length c1 N A2 zs.length c2 1)) := fun W hW => range_of_row ((hW.block _ hbl).trans HS3.out)
      have HRC : Hid (∀ W, LSw w3 W → W.rangeAt w.heap.size 0 [.int .i64 p, .int .i64 m, .slice Am mod.length cm, .int .i64 N, .slice A zs.length c]) := fun W hW => (HX3.out.grow hW).range
      clear HI3 HM3 HR3 HA3 HROW HZ HS3
      go_upto_region 9 with fail
      refine wp_region_keep (LSw w3) (by kernel_rfl) (by kernel_rfl) ((Below.refl _ _).drew) ?_
      repeat (first
        | (refine keep_gload_mid rfl 42 (.tmp 48) rfl b 0 rfl (stepV p m A1 mod.length c1 N A2 zs.length c2 1) _ HRS.out Tryz.underlying42 rfl stepSize ?_
           go_simp)
        | (refine keep_gload_mid rfl 27 (.tmp 1) rfl w.heap.size 0 rfl [.int .i64 p, .int .i64 m, .slice Am mod.length cm, .int .i64 N, .slice A zs.length c] _ HRC.out Tryz.underlying27 rfl codeSize ?_
           go_simp)
        | (refine keep_gcall (v := .bool true) (f := 7) (args := #[.agg (stepV p m A1 mod.length c1 N A2 zs.length c2 1).toArray, .agg (stepV p m Am mod.length cm N A zs.length c 1).toArray]) rfl ?_ (fun W hW => HC7.out W hW) ?_
           · intro W hS
             go_simp
             try first | rfl | exact ⟨rfl, rfl⟩
           go_simp)
        | (apply keep_gcall rfl
           · intro W hS
             go_simp
             exact ⟨rfl, rfl⟩
           · intro W hS
             exact HC8.out W hS
           go_simp)
        | (apply keep_val rfl
           · intro W hS
             go_simp
             rfl
           go_simp)
        | (apply keep_gval rfl
           · intro W hS
             go_simp
             rfl
           go_simp)
        | (apply keep_not rfl; go_simp))
      refine wpKeep_nil ?_
      intro w4 hS4
      have HB4 := Lib.hid (HX3.out.below.trans (hS4.mono (Nat.le_of_lt HX3.out.2.2)))
      go_wp2_with fail
      go_ret
      exact ⟨rfl, HB4.out⟩
#print axioms law_c
end Go.Proofs.YtcfejnnhcdlffaaGreat
