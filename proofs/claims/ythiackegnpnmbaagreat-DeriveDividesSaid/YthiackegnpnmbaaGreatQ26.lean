/-
  derive.CheckStep at a step without premises about the code of 000 and 111. slices.Index, slices.Contains; modify.set of one position, modify.rest. A matrix whose rows are appended one by one; matrix.Columns where nothing is wrong. matrix.Transpose of a matrix of one column. matrix.vec; matrix.Mul where nothing is wrong. matrix.open of two matrices, matrix.Mul, where nothing is wrong. matrix.Mul where nothing is wrong.
-/
import Derived.Deep.DeepCutAuto
import Derived.Deep.RegionHeld3
import Derived.Deep.RegionLaw
import Derived.Test.YthiackegnpnmbaaGreatQ25
import Derived.Test.YthiackegnpnmbaaGreatQ19
import Derived.Test.YthiackegnpnmbaaGreatQ01
namespace Go.Proofs.YthiackegnpnmbaaGreat
open Go.RowKit Pln

/-- The step of three: rule, least weight. -/
def repS (r low : Int) : StD := ⟨r, 2, 1, [], 3, [[1, 1, 1]], low, [], [], 0, 0, 0, 0, 0, 0, 0, 0, 0, 0, 0, 0, 0, []⟩
def repC (r low : Int) (G : Nat) : List Value := stCells (repS r low) none (some ⟨G, 0, none⟩) none none none none none none none none 0 1 0 0 0 0 0 0 0 0
theorem rep_stc {r low : Int} {G : Nat} {w : World} {B : Nat} (h : RowsAt w B (some ⟨G, 0, none⟩) [[1, 1, 1]]) : StC w B (repS r low) (repC r low G) :=
  ⟨none, some ⟨G, 0, none⟩, none, none, none, none, none, none, none, none, 0, 1, 0, 0, 0, 0, 0, 0, 0, 0, rfl, Nat.le_refl _, fun h => absurd h (by simp [repS]), h, fun h => absurd h (by simp [repS]), fun h => absurd h (by simp [repS]), fun h => absurd h (by simp [repS])⟩
theorem rep_ok (r low : Int) : (repS r low).ok := by
  unfold StD.ok repS maxLen
  simp
def BPost (b : Bool) (w : World) (e : Ending) (w' : World) : Prop := e = .returned (.bool b) ∧ Below w.heap.size w w'
set_option maxHeartbeats 1000000 in
set_option maxRecDepth 100000 in
theorem follows_rep (r low : Int) (G : Nat) (w : World) (bb : Bool) (hit : ∀ W : World, Below w.heap.size w W → Calls Tryz.prog 28 #[.agg (repC r low G).toArray] W (BPost bb W)) :
    Calls Tryz.prog 16 #[.agg (repC r low G).toArray, .slice none 0 0] w (BPost bb w) := by
  have HX := Lib.hid (sb_new w (repC r low G))
  have HIT := Lib.hid hit
  clear hit
  go_enter Tryz.func16, Tryz.ntmps16
  go_upto_region 1 with fail
  generalize w.alloc (.cells (repC r low G).toArray 38) = W0 at *
  have HRG := Lib.hid HX.out.range
  have HI := Lib.hid (HIT.out W0 HX.out.2.1)
  clear HIT
  go_wp2_with (refine wpList_load_mid rfl 38 (.tmp 2) rfl w.heap.size 0 rfl (repC r low G) _ HRG.out Tryz.underlying38 rfl stepSize ?_)
  (with_reducible refine HI.out.mono ?_)
  rintro e w1 ⟨rfl, hb⟩
  have HX1 := Lib.hid (HX.out.grow hb)
  clear hb HI HX HRG
  go_wp2_with fail
  go_ret
  exact ⟨rfl, HX1.out.2.1⟩
def ChkPost (bb : Bool) (w : World) (e : Ending) (w' : World) : Prop := e = .returned (.int .i64 (if bb = true then 0 else 13)) ∧ Below w.heap.size w w'
set_option maxHeartbeats 4000000 in
set_option maxRecDepth 100000 in
theorem checkstep_rep (r low : Int) (hp : ∀ W : World, Calls Tryz.prog 15 #[.int .i64 r] W fun e w' => e = .returned (.int .i64 0) ∧ W = w') (h14 : ¬ r = 14) (h18 : ¬ r = 18) (h0 : ¬ r < 0) (h20 : ¬ 20 ≤ r)
    (hf : formZ (repS r low) = 0) (G b o n k : Nat) (w : World) (hk : k < n) (hn : n ≤ 2) (hrg : w.rangeAt b (o + k * 23) (repC r low G)) (_hbl : b < w.heap.size) (hG : RowsAt w w.heap.size (some ⟨G, 0, none⟩) [[1, 1, 1]]) (bb : Bool)
    (hit : ∀ W : World, Below w.heap.size w W → Calls Tryz.prog 28 #[.agg (repC r low G).toArray] W (BPost bb W)) :
    Calls Tryz.prog 6 #[.slice (some ⟨b, o, none⟩) n n, .int .i64 k] w (ChkPost bb w) := by
  have HX := Lib.hid (sb_new w (repC r low G))
  have HRB := Lib.hid hrg
  have HG := Lib.hid hG
  have HP := Lib.hid hp
  have HIT := Lib.hid hit
  have HF := Lib.hid hf
  have HONE : Hid ((repC r low G).toArray.all (·.oneCell') = true) := by show _ = _; simp [repC, stCells, Value.oneCell']
  have k0 : ¬ (k : Int) < 0 := by omega
  have k1 : ¬ (n : Int) ≤ (k : Int) := by omega
  have k2 : ¬ (4096 : Int) < (n : Int) := by omega
  have k3 : (0 : Int) ≤ (k : Int) := by omega
  have k4 : (k : Int) < (n : Int) := by omega
  have e14 : (r == 14) = false := beq_false_of_ne h14
  have e18 : (r == 18) = false := beq_false_of_ne h18
  clear hrg hG hp hit hf
  go_enter Tryz.func6, Tryz.ntmps6
  go_upto_region 6 with (first
    | (refine wpList_load_mid rfl 38 (.tmp 25) rfl b (o + k * 23) rfl (repC r low G) _ HRB.out Tryz.underlying38 rfl stepSize ?_)
    | (refine wpList_store_new rfl 38 (.tmp 5) (.tmp 26) rfl w _ (repC r low G).toArray rfl rfl stepSize rfl HONE.out ?_))
  generalize w.alloc (.cells (repC r low G).toArray 38) = W0 at *
  have HRG := Lib.hid HX.out.range
  have HC := Lib.hid (formed_g (repS r low) (repC r low G) W0 (rep_stc ((HG.out.keep HX.out.2.1).more HX.out.2.1.size)) (rep_ok r low))
  rw [HF.out] at HC
  go_wp2_with (refine wpList_load_mid rfl 38 (.tmp 5) rfl w.heap.size 0 rfl (repC r low G) _ HRG.out Tryz.underlying38 rfl stepSize ?_)
  refine HC.out.mono ?_
  rintro e w1 ⟨rfl, hb1⟩
  have HX1 := Lib.hid (HX.out.grow hb1)
  clear hb1 HX HC HRG HRB HF
  have y0 : w1.cell? ⟨w.heap.size, 0, none⟩ = some (.int .i64 r) := HX1.out.cell rfl
  go_upto_region 11 with fail
  refine wp_region_keep (SB w w.heap.size (repC r low G)) (by kernel_rfl) (by kernel_rfl) (HX1.out.grow (Below.refl _ _).drew) ?_
  repeat (first
      | (apply keep_val rfl
         · intro W hS
           have y0 : W.cell? ⟨w.heap.size, 0, none⟩ = some (.int .i64 r) := hS.cell rfl
           have y7 : W.cell? ⟨w.heap.size, 7, none⟩ = some (.slice none 0 0) := hS.cell rfl
           go_simp
           try rfl
         go_simp)
      | (apply keep_gval rfl
         · intro W hS
           have y0 : W.cell? ⟨w.heap.size, 0, none⟩ = some (.int .i64 r) := hS.cell rfl
           have y7 : W.cell? ⟨w.heap.size, 7, none⟩ = some (.slice none 0 0) := hS.cell rfl
           go_simp
           try rfl
         go_simp)
      | (apply keep_call rfl
         · intro W hS
           go_simp
           exact ⟨rfl, rfl⟩
         · intro W hS
           exact (HP.out W).mono (by rintro e w' ⟨rfl, rfl⟩; exact ⟨rfl, hS⟩)
         go_simp)
      | (apply keep_not rfl; go_simp))
  refine wpKeep_nil ?_
  intro w2 hS
  have HX2 := Lib.hid hS
  clear hS HX1 y0
  have y7 : w2.cell? ⟨w.heap.size, 7, none⟩ = some (.slice none 0 0) := HX2.out.cell rfl
  go_upto_region 15 with fail
  go_loop [7, 66] (fun v7 v66 => v7 = .slice none 0 0 ∧ v66 = .int .i64 0) (fun _ _ => 0)
  case atStart => exact ⟨rfl, rfl⟩
  case round =>
    obtain ⟨rfl, rfl⟩ := hrel
    go_upto_region 22 with fail
    go_loop [87] (fun v87 => v87 = .int .i64 0) (fun _ => 0)
    case atStart => rfl
    case round =>
      subst hrel
      have HRG := Lib.hid HX2.out.range
      have HFO := Lib.hid (follows_rep r low G w2 bb (fun W hW => HIT.out W (HX2.out.2.1.trans (hW.mono HX2.out.2.1.size))))
      go_wp2_with (refine wpList_load_mid rfl 38 (.tmp 5) rfl w.heap.size 0 rfl (repC r low G) _ HRG.out Tryz.underlying38 rfl stepSize ?_)
      (with_reducible refine HFO.out.mono ?_)
      rintro e w3 ⟨rfl, hb⟩
      have HX3 := Lib.hid (HX2.out.grow hb)
      clear hb HFO HRG HX2 y7
      cases bb
      · go_wp2_with fail
        go_ret
        exact ⟨rfl, HX3.out.2.1⟩
      · go_wp2_with fail
        go_ret
        exact ⟨rfl, HX3.out.2.1⟩
theorem form_rep1 : formZ (repS 1 3) = 0 := by kernel_rfl
theorem form_rep15 : formZ (repS 15 4) = 0 := by kernel_rfl
end Go.Proofs.YthiackegnpnmbaaGreat

namespace Go.Proofs.YthiackegnpnmbaaGreat
open Go.RowKit Pln

def RelIx (zs : List Int) (x : Int) (w : World) (v : Value) (wr : World) : Prop := ∃ k n : Nat, k ≤ zs.length ∧ v = .int .i64 k ∧ x ∉ zs.take k ∧ wr = w.drewN n
theorem not_take_succ {zs : List Int} {x : Int} {k : Nat} (hk : k < zs.length) (h : x ∉ zs.take k) (hx : x ≠ zs.getD k 0) : x ∉ zs.take (k + 1) := by
  have e : zs.getD k 0 = zs[k] := by simp [List.getD, hk]
  rw [List.take_succ_eq_append_getElem hk, ← e, List.mem_append, not_or]
  exact ⟨h, by simpa only [List.mem_singleton] using hx⟩

set_option maxHeartbeats 1000000 in
set_option maxRecDepth 100000 in
theorem sindex_c (zs : List Int) (x : Int) (A : Option Addr) (c : Nat) (w : World) (hA : IntsAt w w.heap.size A zs) (hl : zs.length ≤ 9223372036854775807) :
    Calls Tryz.prog 144 #[.slice A zs.length c, .int .i64 x] w fun e w' => (∃ r : Int, e = .returned (.int .i64 r) ∧ (0 ≤ r ↔ x ∈ zs)) ∧ ∃ n, w' = w.drewN n := by
  have HA := Lib.hid hA
  have HST : Hid (∀ k, k < zs.length → x ∉ zs.take k → x ≠ zs.getD k 0 → x ∉ zs.take (k + 1)) := fun k hk h he => not_take_succ hk h he
  have HFD : Hid (∀ k, k < zs.length → x = zs.getD k 0 → x ∈ zs) := fun k hk he => by
    have e : zs.getD k 0 = zs[k] := by simp [List.getD, hk]
    rw [he, e]
    exact List.getElem_mem hk
  have HEND : Hid (x ∉ zs.take zs.length → x ∉ zs) := fun h => by rwa [List.take_length] at h
  clear hA
  go_enter Tryz.func144, Tryz.ntmps144
  go_wp2_with fail
  go_loopw [8] (fun v8 wr => RelIx zs x w v8 wr) (fun v8 _ => zs.length - (intOf v8).toNat)
  case atStart => exact ⟨0, 0, by omega, rfl, by simp, rfl⟩
  case round =>
    obtain ⟨k, n, hk, rfl, htk, rfl⟩ := hrel
    have HTK := Lib.hid htk
    clear htk
    by_cases hlt : k < zs.length
    · obtain ⟨b, o, rfl, hb, hc⟩ := HA.out.at_ hlt
      have HN := Lib.hid (HFD.out k hlt)
      have HS := Lib.hid (HST.out k hlt HTK.out)
      generalize zs.getD k 0 = z at *
      have k0 : (0 : Int) ≤ (k : Int) := by omega
      have k1 : (k : Int) < (zs.length : Int) := by omega
      by_cases hz : x = z
      · have hzb : (x == z) = true := by simp [hz]
        have HN2 := Lib.hid (HN.out hz)
        clear hz
        go_wp2_with fail
        go_ret
        exact ⟨⟨(k : Int), rfl, by simp [HN2.out]⟩, n, by first | rfl | rw [World.drewN_drewN]⟩
      · have hzb : (x == z) = false := by simp [hz]
        have HS2 := Lib.hid (HS.out hz)
        clear hz
        go_wp2_with fail
        go_roundw
        case rel => exact ⟨k + 1, n, by omega, by go_num, HS2.out, by first | rfl | rw [World.drewN_drewN]⟩
        case measure => simp [intOf]; omega
    · obtain rfl : k = zs.length := by omega
      have HE := Lib.hid (HEND.out HTK.out)
      go_wp2_with fail
      go_ret
      exact ⟨⟨-1, rfl, by simp [HE.out]⟩, n, rfl⟩
set_option maxHeartbeats 1000000 in
set_option maxRecDepth 100000 in
theorem contains_c (zs : List Int) (x : Int) (A : Option Addr) (c : Nat) (w : World) (hA : IntsAt w w.heap.size A zs) (hl : zs.length ≤ 9223372036854775807) :
    Calls Tryz.prog 77 #[.slice A zs.length c, .int .i64 x] w (Quiet (.bool (decide (x ∈ zs))) w) := by
  have HI := Lib.hid (sindex_c zs x A c w hA hl)
  clear hA
  go_enter Tryz.func77, Tryz.ntmps77
  go_wp2_with fail
  (with_reducible refine HI.out.mono ?_)
  rintro e w1 ⟨⟨r, rfl, hr⟩, n1, rfl⟩
  go_wp2_with fail
  go_ret
  exact ⟨ret_bool (by by_cases h : x ∈ zs <;> simp_all), _, rfl⟩
end Go.Proofs.YthiackegnpnmbaaGreat

namespace Go.Proofs.YthiackegnpnmbaaGreat
open Go.RowKit Pln

/-- The matrix under way: its box lies right behind the world w; k rows lie behind the box. -/
structure OB (w : World) (n : Int) (rows : List (List Nat)) (k : Nat) (v : Value) (bs : List (Nat × Nat)) (W : World) : Prop where
  below : Below w.heap.size w W
  size : w.heap.size < W.heap.size
  box : W.heap[w.heap.size]? = some (.cells [.int .i64 n, v].toArray 53 (0, 0))
  grid : LGrid W (w.heap.size + 1) v rows bs k
section
variable {w : World} {n : Int} {rows : List (List Nat)} {k : Nat} {v : Value} {bs : List (Nat × Nat)} {W W' : World}
theorem LGrid.grow {B : Nat} (h : LGrid W B v rows bs k) (hb : Below W.heap.size W W') : LGrid W' B v rows bs k := by
  refine ⟨h.len, h.le, ?_, fun i hi => (h.row i hi).below hb (h.row i hi).lt.2, h.apart⟩
  exact h.out.kept (row := none) ⟨hb.os, hb.tape, hb.output, hb.size, fun j hj _ => hb.block j hj⟩ (by cases v.ownBlock <;> simp)
theorem LGrid.set {B : Nat} (h : LGrid W B v rows bs k) {p : Addr} (hp : p.block < B) (u : Value) : LGrid (W.setCell p u) B v rows bs k := by
  refine ⟨h.len, h.le, ?_, fun i hi => (h.row i hi).far (by have := (h.row i hi).lt.1; omega) u, h.apart⟩
  exact h.out.kept (row := some p.block) ⟨rfl, rfl, rfl, by simp, fun j _ hne => Below.heap_setCell W p u j (fun e => hne (by rw [e]))⟩ (by
    cases hv : v.ownBlock with
    | none => exact .inl rfl
    | some b => exact .inr (fun e => by injection e with e; have := (h.out.lt b hv).1; omega))
theorem OB.grow (h : OB w n rows k v bs W) (hb : Below W.heap.size W W') : OB w n rows k v bs W' :=
  ⟨h.below.trans (hb.mono h.below.size), Nat.lt_of_lt_of_le h.size hb.size, (hb.block _ h.size).trans h.box, h.grid.grow hb⟩
theorem OB.cell1 (h : OB w n rows k v bs W) : W.cell? ⟨w.heap.size, 1, none⟩ = some v := cell_of_row _ _ 1 _ _ _ h.box
theorem OB.frozen (h : OB w n rows k v bs W) (j : Nat) : W.frozen? ⟨w.heap.size, j, none⟩ = false := by simp [World.frozen?, h.box]
theorem OB.range (h : OB w n rows k v bs W) : W.rangeAt w.heap.size 0 [.int .i64 n, v] := range_of_row h.box
/-- A row is appended, and the slice stored back. -/
theorem OB.step {w1 w2 : World} {g c : Nat} {o : Obj} {v' : Value} (h : OB w n rows k v bs W) (hk : k < rows.length) (hb : Below W.heap.size W w1) (hr : Row w1 W.heap.size g c (nz (rows.getD k [])))
    (hown : w2.ownsRow (w.heap.size + 1) 23 1 v' (k + 1) ((List.range k).map (hdr rows bs) ++ [.slice (some ⟨g, 0, none⟩) (rows.getD k []).length c])) (hg : (w1.alloc o).grownBy w2 v.ownBlock) (hat : v'.ownBlock = v.ownBlock ∨ v'.ownBlock = some (w1.alloc o).heap.size) :
    OB w n rows (k + 1) v' (bs ++ [(g, c)]) (w2.setCell ⟨w.heap.size, 1, none⟩ v') := by
  have hsz := h.size
  have h1 := hb.size
  have h2 : w1.heap.size < w2.heap.size := by have := hg.size; simp at this; omega
  have hgl := h.grid.step hk (by omega) hb hr hown hg hat
  have hbx : w2.heap[w.heap.size]? = some (.cells [.int .i64 n, v].toArray 53 (0, 0)) := by
    rw [hg.block w.heap.size (by simp; omega) (fun e => by have := (h.grid.out.lt _ e.symm).1; omega), heap_alloc_old _ _ (by omega), hb.block _ hsz]
    exact h.box
  have hbl : Below w.heap.size w w2 := ((h.below.trans (hb.mono (by omega))).alloc (by omega) _).grown hg (by simp; omega) (fun j hj => by have := (h.grid.out.lt _ hj).1; omega)
  exact ⟨hbl.setCell (p := ⟨w.heap.size, 1, none⟩) (Nat.le_refl _) _, by simp; omega, by have := heap_set_same hbx 1 v'; simpa using this, hgl.set (p := ⟨w.heap.size, 1, none⟩) (by show w.heap.size < _; omega) _⟩
/-- The whole owned row ahead of an append. -/
theorem OB.own {w1 : World} (h : OB w n rows k v bs W) (hb : Below W.heap.size W w1) (o : Obj) : (w1.alloc o).ownsRow (w.heap.size + 1) 23 1 v k ((List.range k).map (hdr rows bs)) :=
  World.ownsRow.alloc (h.grid.out.kept (row := none) ⟨hb.os, hb.tape, hb.output, hb.size, fun j hj _ => hb.block j hj⟩ (by cases v.ownBlock <;> simp)) _
end

/-- What a matrix of these rows comes to at the end. -/
def MatPost (w : World) (n : Int) (rows : List (List Nat)) (e : Ending) (w' : World) : Prop :=
  (∃ (A' : Option Addr) (c' : Nat), e = .returned (.tuple #[.agg #[.int .i64 n, .slice A' rows.length c'], .int .i64 0]) ∧ RowsUp w' w.heap.size A' (nzs rows)) ∧ Below w.heap.size w w'
theorem RowsUp.low {w : World} {lo lo' : Nat} {A : Option Addr} {zs : List (List Int)} (h : RowsUp w lo A zs) (hl : lo' ≤ lo) : RowsUp w lo' A zs := h.lower hl

def colsM (rows : List (List Nat)) (set : List Nat) : List (List Nat) := rows.map fun r => set.map fun j => r.getD j 0
/-- The boxes of Columns: the field, the matrix, the result. -/
def RelHb1 (W : World) (n : Nat) (v35 : Value) (wr : World) : Prop := ∃ k : Nat, k ≤ n ∧ v35 = .int .i64 k ∧ Below W.heap.size W wr
def RelHb2 (w1 : World) (n : Int) (rows : List (List Nat)) (v55 : Value) (wr : World) : Prop := ∃ (k : Nat) (v : Value) (bs : List (Nat × Nat)), v55 = .int .i64 k ∧ k ≤ rows.length ∧ OB w1 n rows k v bs wr
def RelHb3 (W : World) (g : Nat) (f : Nat → Nat) (set : List Nat) (v64 : Value) (wr : World) : Prop := ∃ k : Nat, k ≤ set.length ∧ v64 = .int .i64 k ∧ Row wr W.heap.size g set.length (nz (scK f set k)) ∧ Below W.heap.size W wr

end Go.Proofs.YthiackegnpnmbaaGreat

namespace Go.Proofs.YthiackegnpnmbaaGreat
open Go.RowKit Pln

def RelT4 (w1 : World) (n : Nat) (v8 : Value) (W : World) : Prop := ∃ b R : Nat, v8 = .pointer (some ⟨b, 0, none⟩) ∧ W.heap[b]? = some (.cells [.int .i64 (n : Int), .slice (some ⟨R, 0, none⟩) 1 1].toArray 53 (0, 0)) ∧
  W.heap[R]? = some (.cells #[.slice none 0 0] 23 (0, 0)) ∧ w1.heap.size ≤ b ∧ w1.heap.size ≤ R ∧ b < W.heap.size ∧ R < W.heap.size ∧ b ≠ R ∧ Below w1.heap.size w1 W

/-- The one row is done: the boxes stand. -/
def TDone (wc : World) (b R n : Nat) (out : List Nat) (W : World) : Prop := Below wc.heap.size (wc.setCell ⟨R, 0, none⟩ (.slice (some ⟨wc.heap.size, 0, none⟩) n n)) W ∧ Row W wc.heap.size wc.heap.size n (nz out) ∧ b < wc.heap.size
def RelT6 (wc : World) (b R n : Nat) (out : List Nat) (v33 : Value) (wr : World) : Prop := ∃ k : Nat, k ≤ 1 ∧ v33 = .int .i64 k ∧ (k = 0 → wr = wc) ∧ (k = 1 → TDone wc b R n out wr)
def RelT7 (wc : World) (b R n : Nat) (out : List Nat) (v47 : Value) (wr : World) : Prop := ∃ k : Nat, k ≤ n ∧ v47 = .int .i64 k ∧ TDone wc b R n (scK (fun r => r) out k) wr

section
variable {wc : World} {b R n : Nat} {out : List Nat} {W : World}
theorem TDone.cell (h : TDone wc b R n out W) {x y : Nat} (hx : x < wc.heap.size) (hR : x ≠ R) : W.cell? ⟨x, y, none⟩ = wc.cell? ⟨x, y, none⟩ :=
  (h.1.cell (p := ⟨x, y, none⟩) hx).trans (World.cell?_setCell_other _ _ _ _ (by intro e; simp only [Addr.mk.injEq] at e; omega))
theorem TDone.block (h : TDone wc b R n out W) {x : Nat} (hx : x < wc.heap.size) (hR : x ≠ R) : W.heap[x]? = wc.heap[x]? :=
  (h.1.block x hx).trans (Below.heap_setCell wc ⟨R, 0, none⟩ _ x hR)
theorem TDone.hdr (h : TDone wc b R n out W) {v : Value} (hr : wc.heap[R]? = some (.cells #[v] 23 (0, 0))) : W.heap[R]? = some (.cells #[.slice (some ⟨wc.heap.size, 0, none⟩) n n] 23 (0, 0)) := by
  have hR := block_lt hr
  rw [h.1.block R hR]
  have := heap_set_same (cs := [v]) hr 0 (.slice (some ⟨wc.heap.size, 0, none⟩) n n)
  simpa using this
end
theorem TDone.low {wc : World} {b R n : Nat} {out : List Nat} {W : World} (h : TDone wc b R n out W) {B : Nat} (hB : B ≤ R) (hw : B ≤ wc.heap.size) : Below B wc W :=
  ((Below.refl B wc).setCell (p := ⟨R, 0, none⟩) hB _).trans (h.1.mono hw)
end Go.Proofs.YthiackegnpnmbaaGreat

namespace Go.Proofs.YthiackegnpnmbaaGreat
open Go.RowKit Pln

/-- The combination of the first k rows. -/
def vecM (O : Ops) (x : List Nat) (rows : List (List Nat)) (cols : Nat) : Nat → List Nat
  | 0 => List.replicate cols 0
  | k + 1 => if x.getD k 0 = 0 then vecM O x rows cols k else addRow O (vecM O x rows cols k) (x.getD k 0) (rows.getD k [])
def RelVec (w : World) (O : Ops) (x : List Nat) (rows : List (List Nat)) (cols : Nat) (v16 : Value) (wr : World) : Prop :=
  ∃ k : Nat, k ≤ x.length ∧ v16 = .int .i64 k ∧ Row wr w.heap.size w.heap.size cols (nz (vecM O x rows cols k)) ∧ Below w.heap.size w wr

end Go.Proofs.YthiackegnpnmbaaGreat

namespace Go.Proofs.YthiackegnpnmbaaGreat
open Go.RowKit Pln

def RelO2 (w1 : World) (v20 : Value) (wr : World) : Prop := ∃ k : Nat, k ≤ 2 ∧ v20 = .int .i64 k ∧ Below w1.heap.size w1 wr

end Go.Proofs.YthiackegnpnmbaaGreat

namespace Go.Proofs.YthiackegnpnmbaaGreat
open Go.RowKit Pln

theorem natR_nzs (rows : List (List Nat)) : natR (nzs rows) = rows := by
  unfold natR nzs nz
  rw [List.map_map]
  conv => rhs; rw [← List.map_id rows]
  apply List.map_congr_left
  intro r _
  show (r.map fun x : Nat => (x : Int)).map Int.toNat = id r
  rw [List.map_map]
  conv => rhs; rw [id, ← List.map_id r]
  apply List.map_congr_left
  intro x _
  simp
theorem errC_grid {p m : Int} {mod : List Int} {cols : Int} {rows : List (List Nat)} (h : errC p m mod cols (nzs rows) = 0) : fieldOK p m mod = true ∧ checkZ (p.toNat ^ m.toNat) cols (nzs rows) = 0 ∧ Grid (p.toNat ^ m.toNat) rows.length cols.toNat rows ∧ 0 ≤ cols ∧ cols ≤ 256 ∧ rows.length ≤ 256 := by
  obtain ⟨hok, hz⟩ : fieldOK p m mod = true ∧ checkZ (p.toNat ^ m.toNat) cols (nzs rows) = 0 := by
    unfold errC at h
    split at h
    · exact ⟨by assumption, h⟩
    · simp at h
  obtain ⟨_, h2, h3, h4, h5⟩ := check_grid hz
  rw [natR_nzs] at h2
  rw [nzs_len] at h5
  exact ⟨hok, hz, h2, h3, h4, h5⟩
def mulMat (O : Ops) (ra rb : List (List Nat)) (cols : Nat) : List (List Nat) := ra.map fun r => vecM O r rb cols rb.length
/-- The boxes of a function of two matrices. -/
structure BoxH2 (w : World) (f a b r : Array Value) (W : World) : Prop where
  below : Below w.heap.size w W
  size : w.heap.size + 3 < W.heap.size
  k1 : W.heap[w.heap.size + 1]? = some (.cells a 53 (0, 0))
  k2 : W.heap[w.heap.size + 1 + 1]? = some (.cells b 53 (0, 0))
  k3 : W.heap[w.heap.size + 1 + 1 + 1]? = some (.cells r 53 (0, 0))
section
variable {w : World} {f a b r : Array Value} {W W' : World}
theorem BoxH2.keep (h : BoxH2 w f a b r W) (hb : Below W.heap.size W W') : BoxH2 w f a b r W' := by
  have hs := h.size
  exact ⟨h.below.trans (hb.mono (by omega)), Nat.lt_of_lt_of_le hs hb.size, (hb.block _ (by omega)).trans h.k1, (hb.block _ (by omega)).trans h.k2, (hb.block _ (by omega)).trans h.k3⟩
theorem BoxH2.set (h : BoxH2 w f a b r W) (r' : Array Value) : BoxH2 w f a b r' (W.setRow (w.heap.size + 1 + 1 + 1) r') :=
  ⟨below_setRow h.below (by omega) r', by simpa using h.size, (setRow_other W _ _ _ (by omega)).trans h.k1, (setRow_other W _ _ _ (by omega)).trans h.k2, setRow_same W _ _ _ r' h.k3⟩
theorem alloc_at {w : World} {n : Nat} (h : w.heap.size = n) (o : Obj) : (w.alloc o).heap[n]? = some o := by subst h; exact heap_alloc_new _ _
end

def LSt (w0 W : World) : Prop := Below w0.heap.size w0 W

end Go.Proofs.YthiackegnpnmbaaGreat

