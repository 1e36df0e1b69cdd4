/-
  lang.Parse: scan and expr, behind the guard.
-/
import Derived.Test.YtbjagceopgofiaaDoorToks
import Derived.Test.YtbjagceopgofiaaDoorParsI
import Derived.BigQuiet
import Derived.Deep.QuietTactic
namespace Go.Proofs.YtbjagceopgofiaaDoor
open Go.RowKit

theorem lexM_len : ∀ (f : Nat) (l : List UInt8) (k : Nat) (acc ts : List Tok), k ≤ l.length → lexM f l k acc = .ok ts → ts.length ≤ acc.length + (l.length - k)
  | 0, l, k, acc, ts, hk, h => by
    unfold lexM at h
    injection h with h
    subst h
    omega
  | f + 1, l, k, acc, ts, hk, h => by
    unfold lexM at h
    split at h
    · injection h with h
      subst h
      omega
    · rename_i c hc
      have hkl : k < l.length := (List.getElem?_eq_some_iff.1 hc).1
      split at h
      · have := lexM_len f l (k + 1) acc ts (by omega) h
        omega
      · split at h
        · rename_i hl
          split at h
          · cases h
          · have h1 := runEnd_gt hc (let_in hl)
            have h2 := runEnd_le inNm l k hk
            have := lexM_len f l _ _ ts h2 h
            simp at this
            omega
        · split at h
          · rename_i hd
            split at h
            · cases h
            · rename_i e v hn
              obtain ⟨rfl, _, _⟩ := numM_ok hn
              have h1 := runEnd_gt hc hd
              have h2 := runEnd_le isDig l k hk
              have := lexM_len f l _ _ ts h2 h
              simp at this
              omega
          · split at h
            · have := lexM_len f l (k + 1) _ ts (by omega) h
              simp at this
              omega
            · cases h
theorem tokensM_len {l : List UInt8} {ts : List Tok} (h : tokensM l = .ok ts) : l.length ≤ 65536 ∧ ts.length ≤ l.length := by
  unfold tokensM at h
  split at h
  · cases h
  · have := lexM_len _ l 0 [] ts (by omega) h
    simp at this
    omega
theorem toksCells_at : ∀ (ts : List Tok) (i j : Nat) (t : Tok), ts[i]? = some t → j < 4 → (toksCells ts)[i * 4 + j]? = (tokCells t)[j]?
  | [], i, j, t, h, _ => by simp at h
  | a :: r, i, j, t, h, hj => by
    have e : toksCells (a :: r) = tokCells a ++ toksCells r := rfl
    rw [e]
    cases i with
    | zero =>
      simp at h
      subst h
      rw [Nat.zero_mul, Nat.zero_add, List.getElem?_append_left (by simp [tokCells]; omega)]
    | succ i =>
      rw [List.getElem?_append_right (by simp [tokCells]; omega), show (i + 1) * 4 + j - (tokCells a).length = i * 4 + j by simp [tokCells]; omega]
      exact toksCells_at r i j t (by simpa using h) hj
theorem parser_start {w : World} {base : Nat} {v : Value} {ts : List Tok} {en : Nat} (ho : OwnToks w base v ts) (h1 : ts.length ≤ 65536) (h2 : en ≤ 65536) (hb : 0 < base) (hb2 : base ≤ w.heap.size) :
    ∃ A c tb, v = .slice A ts.length c ∧ PSt (w.alloc (.cells #[v, .int .i64 0, .int .i64 en, .int .i64 0] 50)) w.heap.size tb A c ts en 0 0 := by
  have ho' : w.ownsRow base 40 4 v ts.length (toksCells ts) := ho
  rcases ho.2 with ⟨rfl, h0⟩ | ⟨g, cap, cur, rfl, hg, hr⟩
  · refine ⟨none, 0, 0, by rw [h0], ⟨by rw [h0]; exact heap_alloc_new w _, fun i t ht => ?_, by omega, h1, by omega, h2, by omega⟩⟩
    have := (List.getElem?_eq_some_iff.1 ht).1
    omega
  · have hlt : g < w.heap.size := (Array.getElem?_eq_some_iff.1 hr.1).1
    refine ⟨_, cap, g, rfl, ⟨heap_alloc_new w _, fun i t ht => ⟨rfl, fun j u hu => ?_⟩, by omega, h1, by omega, h2, by omega⟩⟩
    have hi := (List.getElem?_eq_some_iff.1 ht).1
    have hj : j < 4 := (List.getElem?_eq_some_iff.1 hu).1
    rw [((Below.refl w.heap.size w).alloc (Nat.le_refl _) _).cell (p := ⟨g, i * 4 + j, none⟩) hlt, ho'.cellAt (i * 4 + j) (by omega)]
    rw [← hu]
    exact toksCells_at ts i j t ht hj
def parsePost (w : World) (R : Except (Nat × Nat) E) (x : Ending) (w' : World) : Prop :=
  match R with
  | .ok y => ∃ cs, x = .returned (.tuple #[.agg cs.toArray, .int .i64 0, .int .i64 0]) ∧ ExprC w' (fun b => w.heap.size ≤ b) y cs ∧ Below w.heap.size w w'
  | .error (er, p) => x = .returned (.tuple #[.agg zeroE, .int .i64 er, .int .i64 p]) ∧ Below w.heap.size w w'
/-- The three cells of the results, made at the call's beginning. -/
def Res3 (w w1 : World) : Prop :=
  w1.heap[w.heap.size]? = some (.cells zeroE 26 (0, 0)) ∧ w1.heap[w.heap.size + 1]? = some (.cells #[.int .i64 0] 27 (0, 0)) ∧ w1.heap[w.heap.size + 2]? = some (.cells #[.int .i64 0] 3 (0, 0)) ∧ w.heap.size + 3 ≤ w1.heap.size ∧ Below w.heap.size w w1
theorem res3_start (w : World) : Res3 w (((w.alloc (.cells zeroE 26)).alloc (.cells #[.int .i64 0] 27)).alloc (.cells #[.int .i64 0] 3)) := by
  have b1 := (Below.refl _ (w.alloc (.cells zeroE 26))).alloc (Nat.le_refl _) (.cells #[.int .i64 0] 27)
  have b2 := (Below.refl _ ((w.alloc (.cells zeroE 26)).alloc (.cells #[.int .i64 0] 27))).alloc (Nat.le_refl _) (.cells #[.int .i64 0] 3)
  have s1 : (w.alloc (.cells zeroE 26)).heap.size = w.heap.size + 1 := World.size_alloc _ _
  have s2 : ((w.alloc (.cells zeroE 26)).alloc (.cells #[.int .i64 0] 27)).heap.size = w.heap.size + 2 := by rw [World.size_alloc, s1]
  refine ⟨?_, ?_, ?_, by rw [World.size_alloc, s2]; exact Nat.le_refl _, (((Below.refl _ _).alloc (Nat.le_refl _) _).alloc (by rw [s1]; omega) _).alloc (by rw [s2]; omega) _⟩
  · rw [b2.block _ (by omega), b1.block _ (by omega)]
    exact heap_alloc_new _ _
  · rw [b2.block _ (by omega), ← s1]
    exact heap_alloc_new _ _
  · rw [← s2]
    exact heap_alloc_new _ _
theorem Res3.grow {w w1 w2 : World} (h : Res3 w w1) (hb : ∀ k, k < w.heap.size + 3 → w2.heap[k]? = w1.heap[k]?) (hs : w1.heap.size ≤ w2.heap.size) (ho : w2.os = w1.os) (ht : w2.tape = w1.tape) (hu : w2.output = w1.output) : Res3 w w2 := by
  obtain ⟨h0, h1, h2, h3, h4⟩ := h
  exact ⟨(hb _ (by omega)).trans h0, (hb _ (by omega)).trans h1, (hb _ (by omega)).trans h2, by omega, ho.trans h4.os, ht.trans h4.tape, hu.trans h4.output, Nat.le_trans h4.size hs, fun k hk => (hb k (by omega)).trans (h4.block k hk)⟩

set_option maxHeartbeats 4000000 in
set_option maxRecDepth 100000 in
theorem parse_scan (s : ByteArray) (w : World) (er p : Nat) (hR : tokensM s.data.toList = .error (er, p)) : Calls Tryd.prog 13 #[.string s] w (parsePost w (.error (er, p))) := by
  have HR := Lib.hid hR
  clear hR
  go_enter_defers Tryd.func13, Tryd.ntmps13
  go_wp2_with fail
  refine (scan_c s _).mono ?_
  intro x w1 hp
  rw [HR.out] at hp
  obtain ⟨rfl, hb⟩ := hp
  have h3 := (res3_start w).grow (w2 := w1) (fun k hk => hb.block k (by have := (res3_start w).2.2.2.1; exact Nat.lt_of_lt_of_le hk this)) hb.size hb.os hb.tape hb.output
  obtain ⟨h0, h1, h2, hsz, hbw⟩ := h3
  have e1 : w1.cell? ⟨w.heap.size + 1, 0, none⟩ = some (.int .i64 0) := cell_of_row _ _ _ _ _ _ h1
  have f1 : w1.frozen? ⟨w.heap.size + 1, 0, none⟩ = false := frozen_of_row _ _ _ _ _ h1
  have e2 : w1.cell? ⟨w.heap.size + 2, 0, none⟩ = some (.int .i64 0) := cell_of_row _ _ _ _ _ _ h2
  have f2 : w1.frozen? ⟨w.heap.size + 2, 0, none⟩ = false := frozen_of_row _ _ _ _ _ h2
  have H0 := Lib.hid h0
  have HB := Lib.hid hbw
  clear hb h0 h1 h2 hbw
  go_wp2_with fail
  refine leaves_cons (f := 25) (args := #[.pointer (some ⟨w.heap.size + 1, 0, none⟩), .pointer (some ⟨w.heap.size + 2, 0, none⟩)]) (by simp) (by simp [go_sem]) ?_
  refine (guard_panicking (w.heap.size + 1) (w.heap.size + 2) 0 0 er p [] w1 (by omega) (by omega) (by omega) e1 f1 e2 f2).mono ?_
  rintro e u' w2 ⟨rfl, rfl, hg⟩
  have g0 := hg.1
  have g1 := hg.2.1
  have hz : w2.heap[w.heap.size]? = some (.cells zeroE 26 (0, 0)) := (hg.2.2.2.2.2.2 _ (by omega) (by omega) (by omega)).trans H0.out
  simp only [Leaves, settle, List.dropWhile_nil]
  refine ⟨.tuple #[.agg zeroE, .int .i64 er, .int .i64 p], ?_, rfl, ?_⟩
  · have z0 : w2.cell? ⟨w.heap.size, 0, none⟩ = some (.int .i64 0) := cell_of_row _ _ 0 _ _ _ hz
    have z1 : w2.cell? ⟨w.heap.size, 1, none⟩ = some (.string ⟨#[]⟩) := cell_of_row _ _ 1 _ _ _ hz
    have z2 : w2.cell? ⟨w.heap.size, 2, none⟩ = some (.int .i64 0) := cell_of_row _ _ 2 _ _ _ hz
    have z3 : w2.cell? ⟨w.heap.size, 3, none⟩ = some (.slice none 0 0) := cell_of_row _ _ 3 _ _ _ hz
    have z4 : w2.cell? ⟨w.heap.size, 4, none⟩ = some (.slice none 0 0) := cell_of_row _ _ 4 _ _ _ hz
    simp [results, Tryd.results13, go_sem, g0, g1, z0, z1, z2, z3, z4, zeroE]
  · exact HB.out.trans (guarded_below hg (by omega) (by omega) (by omega))

theorem ExprC.shape {w : World} {F : Nat → Prop} {y : E} {cs : List Value} (h : ExprC w F y cs) : ∃ k nm n la ll lc aa al ac, cs = [.int .i64 k, .string nm, .int .i64 n, .slice la ll lc, .slice aa al ac] := by
  cases y
  unfold ExprC at h
  obtain ⟨la, lc, aa, ac, rfl, _⟩ := h
  exact ⟨_, _, _, _, _, _, _, _, _, rfl⟩
theorem Res3.via {w w1 w2 : World} {gp : Nat} (h : Res3 w w1) (hg : w1.grownBy w2 (some gp)) (hp : w.heap.size + 3 ≤ gp) : Res3 w w2 := by
  have h3 := h.2.2.2.1
  exact h.grow (fun k hk => hg.block k (by omega) (fun e => by have := Option.some.inj e; omega)) hg.size hg.os hg.tape hg.output
theorem Res3.below {w w1 w2 : World} (h : Res3 w w1) (hb : Below w1.heap.size w1 w2) : Res3 w w2 :=
  h.grow (fun k hk => hb.block k (by have := h.2.2.2.1; omega)) hb.size hb.os hb.tape hb.output

set_option maxHeartbeats 4000000 in
set_option maxRecDepth 100000 in
theorem parse_err (s : ByteArray) (w : World) (ts : List Tok) (er p : Nat) (hR : tokensM s.data.toList = .ok ts) (hX : exprM ts s.size (2 * ts.length + 4) 1 0 0 = some (.error (er, p))) : Calls Tryd.prog 13 #[.string s] w (parsePost w (.error (er, p))) := by
  have HR := Lib.hid hR
  have HX := Lib.hid hX
  obtain ⟨hl1, hl2⟩ := tokensM_len hR
  rw [len_data] at hl1 hl2
  clear hR hX
  go_enter_defers Tryd.func13, Tryd.ntmps13
  go_wp2_with fail
  refine (scan_c s _).mono ?_
  intro x w1 hp
  rw [HR.out] at hp
  obtain ⟨v, rfl, ho, hb⟩ := hp
  have h3 := (res3_start w).grow (w2 := w1) (fun k hk => hb.block k (by have := (res3_start w).2.2.2.1; exact Nat.lt_of_lt_of_le hk this)) hb.size hb.os hb.tape hb.output
  obtain ⟨A, c, tb, rfl, hps⟩ := parser_start ho (en := s.size) (by omega) hl1 (by have := (res3_start w).2.2.2.1; exact Nat.lt_of_lt_of_le (by omega) this) hb.size
  have H3 := Lib.hid (h3.below (((Below.refl _ _).alloc (Nat.le_refl _) (.cells #[.slice A ts.length c, .int .i64 0, .int .i64 s.size, .int .i64 0] 50))))
  have HP := Lib.hid hps
  have hgp : w.heap.size + 3 ≤ w1.heap.size := h3.2.2.2.1
  clear hb ho h3 hps
  go_wp2_with fail
  generalize w1.alloc (.cells #[.slice A ts.length c, .int .i64 0, .int .i64 s.size, .int .i64 0] 50) = w2 at *
  generalize w1.heap.size = gp at *
  refine (expr_c (2 * ts.length + 4) 1 _ (by omega) HP.out _ HX.out).mono ?_
  rintro x w3 ⟨rfl, hg⟩
  have H4 := Lib.hid (H3.out.via hg hgp)
  clear hg HP
  obtain ⟨h0, h1, h2, hsz, hbw⟩ := H4.out
  have e1 : w3.cell? ⟨w.heap.size + 1, 0, none⟩ = some (.int .i64 0) := cell_of_row _ _ _ _ _ _ h1
  have f1 : w3.frozen? ⟨w.heap.size + 1, 0, none⟩ = false := frozen_of_row _ _ _ _ _ h1
  have e2 : w3.cell? ⟨w.heap.size + 2, 0, none⟩ = some (.int .i64 0) := cell_of_row _ _ _ _ _ _ h2
  have f2 : w3.frozen? ⟨w.heap.size + 2, 0, none⟩ = false := frozen_of_row _ _ _ _ _ h2
  have H0 := Lib.hid h0
  have HB := Lib.hid hbw
  clear h0 h1 h2 hbw
  go_wp2_with fail
  refine leaves_cons (f := 25) (args := #[.pointer (some ⟨w.heap.size + 1, 0, none⟩), .pointer (some ⟨w.heap.size + 2, 0, none⟩)]) (by simp) (by simp [go_sem]) ?_
  refine (guard_panicking (w.heap.size + 1) (w.heap.size + 2) 0 0 er p [] w3 (by omega) (by omega) (by omega) e1 f1 e2 f2).mono ?_
  rintro e u' wz ⟨rfl, rfl, hg⟩
  have g0 := hg.1
  have g1 := hg.2.1
  have hz : wz.heap[w.heap.size]? = some (.cells zeroE 26 (0, 0)) := (hg.2.2.2.2.2.2 _ (by omega) (by omega) (by omega)).trans H0.out
  simp only [Leaves, settle, List.dropWhile_nil]
  refine ⟨.tuple #[.agg zeroE, .int .i64 er, .int .i64 p], ?_, rfl, ?_⟩
  · have z0 : wz.cell? ⟨w.heap.size, 0, none⟩ = some (.int .i64 0) := cell_of_row _ _ 0 _ _ _ hz
    have z1 : wz.cell? ⟨w.heap.size, 1, none⟩ = some (.string ⟨#[]⟩) := cell_of_row _ _ 1 _ _ _ hz
    have z2 : wz.cell? ⟨w.heap.size, 2, none⟩ = some (.int .i64 0) := cell_of_row _ _ 2 _ _ _ hz
    have z3 : wz.cell? ⟨w.heap.size, 3, none⟩ = some (.slice none 0 0) := cell_of_row _ _ 3 _ _ _ hz
    have z4 : wz.cell? ⟨w.heap.size, 4, none⟩ = some (.slice none 0 0) := cell_of_row _ _ 4 _ _ _ hz
    simp [results, Tryd.results13, go_sem, g0, g1, z0, z1, z2, z3, z4, zeroE]
  · exact HB.out.trans (guarded_below hg (by omega) (by omega) (by omega))

set_option maxHeartbeats 4000000 in
set_option maxRecDepth 100000 in
theorem parse_tail (s : ByteArray) (w : World) (ts : List Tok) (y : E) (j nd : Nat) (hR : tokensM s.data.toList = .ok ts) (hX : exprM ts s.size (2 * ts.length + 4) 1 0 0 = some (.ok (y, j, nd))) (hj : j < ts.length) : Calls Tryd.prog 13 #[.string s] w (parsePost w (.error (14, atT ts s.size j))) := by
  have HR := Lib.hid hR
  have HX := Lib.hid hX
  obtain ⟨hl1, hl2⟩ := tokensM_len hR
  rw [len_data] at hl1 hl2
  clear hR hX
  go_enter_defers Tryd.func13, Tryd.ntmps13
  go_wp2_with fail
  refine (scan_c s _).mono ?_
  intro x w1 hp
  rw [HR.out] at hp
  obtain ⟨v, rfl, ho, hb⟩ := hp
  have h3 := (res3_start w).grow (w2 := w1) (fun k hk => hb.block k (by have := (res3_start w).2.2.2.1; exact Nat.lt_of_lt_of_le hk this)) hb.size hb.os hb.tape hb.output
  obtain ⟨A, c, tb, rfl, hps⟩ := parser_start ho (en := s.size) (by omega) hl1 (by have := (res3_start w).2.2.2.1; exact Nat.lt_of_lt_of_le (by omega) this) hb.size
  have H3 := Lib.hid (h3.below (((Below.refl _ _).alloc (Nat.le_refl _) (.cells #[.slice A ts.length c, .int .i64 0, .int .i64 s.size, .int .i64 0] 50))))
  have HP := Lib.hid hps
  have hgp : w.heap.size + 3 ≤ w1.heap.size := h3.2.2.2.1
  clear hb ho h3 hps
  go_wp2_with fail
  generalize w1.alloc (.cells #[.slice A ts.length c, .int .i64 0, .int .i64 s.size, .int .i64 0] 50) = w2 at *
  generalize w1.heap.size = gp at *
  refine (expr_c (2 * ts.length + 4) 1 _ (by omega) HP.out _ HX.out).mono ?_
  intro x w3 hp
  obtain ⟨cs, rfl, hc, hp3, hg3⟩ := hp
  obtain ⟨k, nm, n, la, ll, lc, aa, al, ac, rfl⟩ := hc.shape
  have H4 := Lib.hid (H3.out.via hg3 hgp)
  have HP3 := Lib.hid hp3
  have HC := Lib.hid hc
  have hw2 : w.heap.size + 3 ≤ w2.heap.size := H3.out.2.2.2.1
  have hw3 : w2.heap.size ≤ w3.heap.size := hg3.size
  clear hp3 hc hg3 HP
  go_upto_region 4 with (refine wpList_store_new rfl 26 (.tmp 6) (.tmp 14) rfl w3 _ #[.int .i64 k, .string nm, .int .i64 n, .slice la ll lc, .slice aa al ac] rfl rfl exprSize rfl (by simp [Value.oneCell']) ?_)
  have hb4 : Below w3.heap.size w3 (w3.alloc (.cells #[.int .i64 k, .string nm, .int .i64 n, .slice la ll lc, .slice aa al ac] 26)) := (Below.refl _ _).alloc (Nat.le_refl _) _
  have HP4 := Lib.hid (HP3.out.grow hb4)
  have H5 := Lib.hid (H4.out.below hb4)
  have HBX : Hid (_ = some _) := heap_alloc_new w3 (.cells #[.int .i64 k, .string nm, .int .i64 n, .slice la ll lc, .slice aa al ac] 26)
  have HC4 := Lib.hid (ExprC.mono (w' := w3.alloc (.cells #[.int .i64 k, .string nm, .int .i64 n, .slice la ll lc, .slice aa al ac] 26)) (F' := fun b => w.heap.size + 3 ≤ b) (fun b hb hlt => ⟨by omega, hb4.block b hlt⟩) _ _ HC.out)
  clear hb4 HC HP3 H4
  generalize w3.alloc (.cells #[.int .i64 k, .string nm, .int .i64 n, .slice la ll lc, .slice aa al ac] 26) = w4 at *
  have p0 : w4.cell? ⟨gp, 0, none⟩ = some (.slice A ts.length c) := HP4.out.cell 0
  have p1 : w4.cell? ⟨gp, 1, none⟩ = some (.int .i64 j) := HP4.out.cell 1
  go_quiet (fail)
  have HP6 := Lib.hid (HP4.out.grow (below_drewN (Below.refl _ _) nq))
  have H6 := Lib.hid (H5.out.below (below_drewN (Below.refl _ _) nq))
  have HB6 : Hid ((w4.drewN nq).heap[w3.heap.size]? = _) := HBX.out
  have HC6 := Lib.hid (ExprC.mono (w' := w4.drewN nq) (F := fun b => w.heap.size + 3 ≤ b) (F' := fun b => w.heap.size + 3 ≤ b) (w := w4) (fun b hb hlt => ⟨hb, rfl⟩) _ _ HC4.out)
  clear HP4 H5 HBX HC4 p0 p1
  generalize w4.drewN nq = w6 at *
  go_wp2_with fail
  refine (at_c _ HP6.out).mono ?_
  rintro e w7 ⟨rfl, hb7⟩
  have H7 := Lib.hid (H6.out.below hb7)
  clear hb7 HP6 H6 HB6 HC6
  go_wp2_with fail
  refine (fail_c _ _ _).mono ?_
  rintro e w8 ⟨rfl, rfl⟩
  obtain ⟨h0, h1, h2, hsz, hbw⟩ := H7.out
  have e1 : w7.cell? ⟨w.heap.size + 1, 0, none⟩ = some (.int .i64 0) := cell_of_row _ _ _ _ _ _ h1
  have f1 : w7.frozen? ⟨w.heap.size + 1, 0, none⟩ = false := frozen_of_row _ _ _ _ _ h1
  have e2 : w7.cell? ⟨w.heap.size + 2, 0, none⟩ = some (.int .i64 0) := cell_of_row _ _ _ _ _ _ h2
  have f2 : w7.frozen? ⟨w.heap.size + 2, 0, none⟩ = false := frozen_of_row _ _ _ _ _ h2
  have H0 := Lib.hid h0
  have HB := Lib.hid hbw
  clear h0 h1 h2 hbw
  go_wp2_with fail
  refine leaves_cons (f := 25) (args := #[.pointer (some ⟨w.heap.size + 1, 0, none⟩), .pointer (some ⟨w.heap.size + 2, 0, none⟩)]) (by simp) (by simp [go_sem]) ?_
  refine (guard_panicking (w.heap.size + 1) (w.heap.size + 2) 0 0 14 (atT ts s.size j) [] w7 (by omega) (by omega) (by omega) e1 f1 e2 f2).mono ?_
  rintro e u' wz ⟨rfl, rfl, hg⟩
  have g0 := hg.1
  have g1 := hg.2.1
  have hz : wz.heap[w.heap.size]? = some (.cells zeroE 26 (0, 0)) := (hg.2.2.2.2.2.2 _ (by omega) (by omega) (by omega)).trans H0.out
  simp only [Leaves, settle, List.dropWhile_nil]
  refine ⟨.tuple #[.agg zeroE, .int .i64 14, .int .i64 (atT ts s.size j)], ?_, rfl, ?_⟩
  · have z0 : wz.cell? ⟨w.heap.size, 0, none⟩ = some (.int .i64 0) := cell_of_row _ _ 0 _ _ _ hz
    have z1 : wz.cell? ⟨w.heap.size, 1, none⟩ = some (.string ⟨#[]⟩) := cell_of_row _ _ 1 _ _ _ hz
    have z2 : wz.cell? ⟨w.heap.size, 2, none⟩ = some (.int .i64 0) := cell_of_row _ _ 2 _ _ _ hz
    have z3 : wz.cell? ⟨w.heap.size, 3, none⟩ = some (.slice none 0 0) := cell_of_row _ _ 3 _ _ _ hz
    have z4 : wz.cell? ⟨w.heap.size, 4, none⟩ = some (.slice none 0 0) := cell_of_row _ _ 4 _ _ _ hz
    simp [results, Tryd.results13, go_sem, g0, g1, z0, z1, z2, z3, z4, zeroE]
  · exact HB.out.trans (guarded_below hg (by omega) (by omega) (by omega))

set_option maxHeartbeats 4000000 in
set_option maxRecDepth 100000 in
theorem parse_ok (s : ByteArray) (w : World) (ts : List Tok) (y : E) (j nd : Nat) (hR : tokensM s.data.toList = .ok ts) (hX : exprM ts s.size (2 * ts.length + 4) 1 0 0 = some (.ok (y, j, nd))) (hj : ¬ j < ts.length) : Calls Tryd.prog 13 #[.string s] w (parsePost w (.ok y)) := by
  have HR := Lib.hid hR
  have HX := Lib.hid hX
  obtain ⟨hl1, hl2⟩ := tokensM_len hR
  rw [len_data] at hl1 hl2
  clear hR hX
  go_enter_defers Tryd.func13, Tryd.ntmps13
  go_wp2_with fail
  refine (scan_c s _).mono ?_
  intro x w1 hp
  rw [HR.out] at hp
  obtain ⟨v, rfl, ho, hb⟩ := hp
  have h3 := (res3_start w).grow (w2 := w1) (fun k hk => hb.block k (by have := (res3_start w).2.2.2.1; exact Nat.lt_of_lt_of_le hk this)) hb.size hb.os hb.tape hb.output
  obtain ⟨A, c, tb, rfl, hps⟩ := parser_start ho (en := s.size) (by omega) hl1 (by have := (res3_start w).2.2.2.1; exact Nat.lt_of_lt_of_le (by omega) this) hb.size
  have H3 := Lib.hid (h3.below (((Below.refl _ _).alloc (Nat.le_refl _) (.cells #[.slice A ts.length c, .int .i64 0, .int .i64 s.size, .int .i64 0] 50))))
  have HP := Lib.hid hps
  have hgp : w.heap.size + 3 ≤ w1.heap.size := h3.2.2.2.1
  clear hb ho h3 hps
  go_wp2_with fail
  generalize w1.alloc (.cells #[.slice A ts.length c, .int .i64 0, .int .i64 s.size, .int .i64 0] 50) = w2 at *
  generalize w1.heap.size = gp at *
  refine (expr_c (2 * ts.length + 4) 1 _ (by omega) HP.out _ HX.out).mono ?_
  intro x w3 hp
  obtain ⟨cs, rfl, hc, hp3, hg3⟩ := hp
  obtain ⟨k, nm, n, la, ll, lc, aa, al, ac, rfl⟩ := hc.shape
  have H4 := Lib.hid (H3.out.via hg3 hgp)
  have HP3 := Lib.hid hp3
  have HC := Lib.hid hc
  have hw2 : w.heap.size + 3 ≤ w2.heap.size := H3.out.2.2.2.1
  have hw3 : w2.heap.size ≤ w3.heap.size := hg3.size
  clear hp3 hc hg3 HP
  go_upto_region 4 with (refine wpList_store_new rfl 26 (.tmp 6) (.tmp 14) rfl w3 _ #[.int .i64 k, .string nm, .int .i64 n, .slice la ll lc, .slice aa al ac] rfl rfl exprSize rfl (by simp [Value.oneCell']) ?_)
  have hb4 : Below w3.heap.size w3 (w3.alloc (.cells #[.int .i64 k, .string nm, .int .i64 n, .slice la ll lc, .slice aa al ac] 26)) := (Below.refl _ _).alloc (Nat.le_refl _) _
  have HP4 := Lib.hid (HP3.out.grow hb4)
  have H5 := Lib.hid (H4.out.below hb4)
  have HBX : Hid (_ = some _) := heap_alloc_new w3 (.cells #[.int .i64 k, .string nm, .int .i64 n, .slice la ll lc, .slice aa al ac] 26)
  have HC4 := Lib.hid (ExprC.mono (w' := w3.alloc (.cells #[.int .i64 k, .string nm, .int .i64 n, .slice la ll lc, .slice aa al ac] 26)) (F' := fun b => w.heap.size + 3 ≤ b) (fun b hb hlt => ⟨by omega, hb4.block b hlt⟩) _ _ HC.out)
  clear hb4 HC HP3 H4
  generalize w3.alloc (.cells #[.int .i64 k, .string nm, .int .i64 n, .slice la ll lc, .slice aa al ac] 26) = w4 at *
  have p0 : w4.cell? ⟨gp, 0, none⟩ = some (.slice A ts.length c) := HP4.out.cell 0
  have p1 : w4.cell? ⟨gp, 1, none⟩ = some (.int .i64 j) := HP4.out.cell 1
  go_quiet (fail)
  have HP6 := Lib.hid (HP4.out.grow (below_drewN (Below.refl _ _) nq))
  have H6 := Lib.hid (H5.out.below (below_drewN (Below.refl _ _) nq))
  have HB6 : Hid ((w4.drewN nq).heap[w3.heap.size]? = _) := HBX.out
  have HC6 := Lib.hid (ExprC.mono (w' := w4.drewN nq) (F := fun b => w.heap.size + 3 ≤ b) (F' := fun b => w.heap.size + 3 ≤ b) (w := w4) (fun b hb hlt => ⟨hb, rfl⟩) _ _ HC4.out)
  clear HP4 H5 HBX HC4 p0 p1
  generalize w4.drewN nq = w6 at *
  obtain ⟨h0, h1, h2, hsz, hbw⟩ := H6.out
  have e1 : (w6.setRow w.heap.size #[.int .i64 k, .string nm, .int .i64 n, .slice la ll lc, .slice aa al ac]).cell? ⟨w.heap.size + 1, 0, none⟩ = some (.int .i64 0) := (World.cell?_of_block (a := ⟨w.heap.size + 1, 0, none⟩) (setRow_other _ _ _ _ (by show w.heap.size + 1 ≠ _; omega))).trans (cell_of_row _ _ _ _ _ _ h1)
  have f1 : (w6.setRow w.heap.size #[.int .i64 k, .string nm, .int .i64 n, .slice la ll lc, .slice aa al ac]).frozen? ⟨w.heap.size + 1, 0, none⟩ = false := (World.frozen?_of_block (a := ⟨w.heap.size + 1, 0, none⟩) (setRow_other _ _ _ _ (by show w.heap.size + 1 ≠ _; omega))).trans (frozen_of_row _ _ _ _ _ h1)
  have e2 : (w6.setRow w.heap.size #[.int .i64 k, .string nm, .int .i64 n, .slice la ll lc, .slice aa al ac]).cell? ⟨w.heap.size + 1 + 1, 0, none⟩ = some (.int .i64 0) := (World.cell?_of_block (a := ⟨w.heap.size + 1 + 1, 0, none⟩) (setRow_other _ _ _ _ (by show w.heap.size + 2 ≠ _; omega))).trans (cell_of_row _ _ _ _ _ _ h2)
  have f2 : (w6.setRow w.heap.size #[.int .i64 k, .string nm, .int .i64 n, .slice la ll lc, .slice aa al ac]).frozen? ⟨w.heap.size + 1 + 1, 0, none⟩ = false := (World.frozen?_of_block (a := ⟨w.heap.size + 1 + 1, 0, none⟩) (setRow_other _ _ _ _ (by show w.heap.size + 2 ≠ _; omega))).trans (frozen_of_row _ _ _ _ _ h2)
  have hz := setRow_heap w6 w.heap.size zeroE #[.int .i64 k, .string nm, .int .i64 n, .slice la ll lc, .slice aa al ac] 26 (0, 0) h0
  have z0 : (w6.setRow w.heap.size #[.int .i64 k, .string nm, .int .i64 n, .slice la ll lc, .slice aa al ac]).cell? ⟨w.heap.size, 0, none⟩ = some (.int .i64 k) := cell_of_row _ _ 0 _ _ _ hz
  have z1 : (w6.setRow w.heap.size #[.int .i64 k, .string nm, .int .i64 n, .slice la ll lc, .slice aa al ac]).cell? ⟨w.heap.size, 1, none⟩ = some (.string nm) := cell_of_row _ _ 1 _ _ _ hz
  have z2 : (w6.setRow w.heap.size #[.int .i64 k, .string nm, .int .i64 n, .slice la ll lc, .slice aa al ac]).cell? ⟨w.heap.size, 2, none⟩ = some (.int .i64 n) := cell_of_row _ _ 2 _ _ _ hz
  have z3 : (w6.setRow w.heap.size #[.int .i64 k, .string nm, .int .i64 n, .slice la ll lc, .slice aa al ac]).cell? ⟨w.heap.size, 3, none⟩ = some (.slice la ll lc) := cell_of_row _ _ 3 _ _ _ hz
  have z4 : (w6.setRow w.heap.size #[.int .i64 k, .string nm, .int .i64 n, .slice la ll lc, .slice aa al ac]).cell? ⟨w.heap.size, 4, none⟩ = some (.slice aa al ac) := cell_of_row _ _ 4 _ _ _ hz
  have HB7 : Hid (Below w.heap.size w (w6.setRow w.heap.size #[.int .i64 k, .string nm, .int .i64 n, .slice la ll lc, .slice aa al ac])) := below_setRow hbw (Nat.le_refl _) _
  have HC7 := Lib.hid (ExprC.mono (w' := w6.setRow w.heap.size #[.int .i64 k, .string nm, .int .i64 n, .slice la ll lc, .slice aa al ac]) (w := w6) (F := fun b => w.heap.size + 3 ≤ b) (F' := fun b => w.heap.size + 3 ≤ b) (fun b hb hlt => ⟨hb, setRow_other _ _ _ _ (by omega)⟩) _ _ HC6.out)
  have H0 := Lib.hid h0
  clear h0 h1 h2 hbw hz HC6 HP6
  go_wp2_with (first
    | (refine wpList_load_mid rfl 26 (.tmp 6) rfl w3.heap.size 0 rfl [.int .i64 k, .string nm, .int .i64 n, .slice la ll lc, .slice aa al ac] _ (range_of_row HB6.out) Tryd.underlying26 rfl exprSize ?_)
    | (refine wpList_store_row rfl 26 (.tmp 2) (.tmp 28) rfl w.heap.size #[.int .i64 k, .string nm, .int .i64 n, .slice la ll lc, .slice aa al ac] rfl rfl 26 _ H0.out exprSize rfl (by simp [Value.oneCell']) ?_))
  refine leaves_cons (f := 25) (args := #[.pointer (some ⟨w.heap.size + 1, 0, none⟩), .pointer (some ⟨w.heap.size + 1 + 1, 0, none⟩)]) (by simp) (by simp [go_sem]) ?_
  refine (guard_idle _ _ _).mono ?_
  rintro e u' w'' ⟨rfl, rfl, rfl⟩
  simp only [Leaves, settle]
  refine ⟨.tuple #[.agg #[.int .i64 k, .string nm, .int .i64 n, .slice la ll lc, .slice aa al ac], .int .i64 0, .int .i64 0], by simp [results, Tryd.results13, go_sem, e1, e2, z0, z1, z2, z3, z4], [.int .i64 k, .string nm, .int .i64 n, .slice la ll lc, .slice aa al ac], rfl, ?_, ?_⟩
  · exact ExprC.mono (fun b hb hlt => ⟨by omega, (Below.heap_setCell _ _ _ _ (by show b ≠ w.heap.size + 1 + 1; omega)).trans (Below.heap_setCell _ _ _ _ (by show b ≠ w.heap.size + 1; omega))⟩) _ _ HC7.out
  · exact ((HB7.out.setCell (p := ⟨w.heap.size + 1, 0, none⟩) (by simp) _).setCell (p := ⟨w.heap.size + 1 + 1, 0, none⟩) (by show w.heap.size ≤ w.heap.size + 1 + 1; omega) _)

/-- lang.Parse, by its model. -/
theorem parse_c (s : ByteArray) (w : World) : Calls Tryd.prog 13 #[.string s] w (parsePost w (parseM s.data.toList)) := by
  cases hR : tokensM s.data.toList with
  | error e =>
    have : parseM s.data.toList = .error e := by unfold parseM; rw [hR]
    rw [this]
    exact parse_scan s w e.1 e.2 hR
  | ok ts =>
    obtain ⟨x, hx, _⟩ := (both_gone (ts := ts) (en := s.size) (2 * ts.length + 4)).1 1 0 0 (by omega) (by omega)
    have hp : parseM s.data.toList = match x with | .error e => .error e | .ok (y, i, _) => if i < ts.length then .error (14, atT ts s.size i) else .ok y := by
      unfold parseM
      rw [hR]
      simp only [len_data, hx]
      cases x <;> rfl
    rw [hp]
    match x, hx with
    | .error e, hx => exact parse_err s w ts e.1 e.2 hR hx
    | .ok (y, j, nd), hx =>
      by_cases hj : j < ts.length
      · simp only [hj, if_true]
        exact parse_tail s w ts y j nd hR hx hj
      · simp only [hj, if_false]
        exact parse_ok s w ts y j nd hR hx hj
#print axioms parse_c
end Go.Proofs.YtbjagceopgofiaaDoor
