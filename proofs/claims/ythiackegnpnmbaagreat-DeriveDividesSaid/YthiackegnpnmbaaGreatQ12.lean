/-
  A grid of rows of the call's own; matrix.clone. matrix.clone.
-/
import Derived.Test.YthiackegnpnmbaaGreatQ11
namespace Go.Proofs.YthiackegnpnmbaaGreat
open Go.RowKit Pln

theorem infoInts : (Tryz.prog.info? 23).map (fun i => (i.zero, i.size, i.bytes)) = some (some (.slice none 0 0), 1, 24) := by kernel_rfl
def bk (bs : List (Nat × Nat)) (i : Nat) : Nat := (bs.getD i (0, 0)).1
def cp (bs : List (Nat × Nat)) (i : Nat) : Nat := (bs.getD i (0, 0)).2
def hdr (rows : List (List Nat)) (bs : List (Nat × Nat)) (i : Nat) : Value := .slice (some ⟨bk bs i, 0, none⟩) (rows.getD i []).length (cp bs i)
def hdrs (rows : List (List Nat)) (bs : List (Nat × Nat)) : List Value := (List.range rows.length).map (hdr rows bs)
/-- A grid: the outer row R of slice headers, the rows in distinct blocks, all from block B on. -/
structure GridAt (w : World) (B R cR : Nat) (rows : List (List Nat)) (bs : List (Nat × Nat)) : Prop where
  len : bs.length = rows.length
  out : w.ownsRow B 23 1 (.slice (some ⟨R, 0, none⟩) rows.length cR) rows.length (hdrs rows bs)
  row : ∀ i, i < rows.length → Row w B (bk bs i) (cp bs i) (nz (rows.getD i []))
  nd : ∀ i j, i < rows.length → j < rows.length → i ≠ j → bk bs i ≠ bk bs j
section
variable {w w' : World} {B R cR : Nat} {rows : List (List Nat)} {bs : List (Nat × Nat)}
theorem GridAt.cell (h : GridAt w B R cR rows bs) {i : Nat} (hi : i < rows.length) : w.cell? ⟨R, i, none⟩ = some (.slice (some ⟨bk bs i, 0, none⟩) (rows.getD i []).length (cp bs i)) := by
  rw [World.ownsRow.cellAt h.out i (by omega)]
  simp [hdrs, hi, hdr]
theorem GridAt.frozen (h : GridAt w B R cR rows bs) (i : Nat) : w.frozen? ⟨R, i, none⟩ = false := World.ownsRow.frozenAt h.out i
theorem GridAt.lt (h : GridAt w B R cR rows bs) : B ≤ R ∧ R < w.heap.size := World.ownsRow.lt h.out R rfl
theorem own_block {e : TypeId} {n c : Nat} {xs : List Value} (h : w.ownsRow B e 1 (.slice (some ⟨R, 0, none⟩) n c) n xs) : ∃ cur, w.heap[R]? = some (.cells cur e (0, 0)) := by
  rcases h.2 with ⟨h1, _⟩ | ⟨g, cap, cur, hv, _, hh, _⟩
  · cases h1
  · simp only [Value.slice.injEq, Option.some.injEq, Addr.mk.injEq, and_true, true_and] at hv
    obtain ⟨rfl, _⟩ := hv
    exact ⟨cur, hh⟩
theorem own_below {e : TypeId} {n c : Nat} {xs : List Value} (h : w.ownsRow B e 1 (.slice (some ⟨R, 0, none⟩) n c) n xs) (hb : w'.heap[R]? = w.heap[R]?) : w'.ownsRow B e 1 (.slice (some ⟨R, 0, none⟩) n c) n xs := by
  refine ⟨h.1, ?_⟩
  rcases h.2 with ⟨h1, _⟩ | ⟨g, cap, cur, hv, hB, hh, r⟩
  · cases h1
  · have : g = R := by
      simp only [Value.slice.injEq, Option.some.injEq, Addr.mk.injEq, and_true, true_and] at hv
      exact hv.1.symm
    exact .inr ⟨g, cap, cur, hv, hB, by rw [this] at hh ⊢; exact hb.trans hh, r⟩
theorem GridAt.ne (h : GridAt w B R cR rows bs) {B' g c : Nat} {zs : List Int} (hr : Row w B' g c zs) : g ≠ R := by
  rintro rfl
  obtain ⟨c1, e1⟩ := own_block h.out
  obtain ⟨c2, e2⟩ := own_block (e := 3) hr
  rw [e1] at e2
  injection e2 with e2
  injection e2 with _ ht
  exact absurd ht (by decide)
theorem GridAt.of_blocks (h : GridAt w B R cR rows bs) (hb : ∀ k, B ≤ k → k < w.heap.size → w'.heap[k]? = w.heap[k]?) : GridAt w' B R cR rows bs := by
  refine ⟨h.len, own_below h.out (hb R h.lt.1 h.lt.2), fun i hi => ?_, h.nd⟩
  have hr := h.row i hi
  exact own_below hr (hb _ hr.lt.1 hr.lt.2)
theorem GridAt.grow (h : GridAt w B R cR rows bs) (hb : Below w.heap.size w w') : GridAt w' B R cR rows bs := h.of_blocks fun k _ hk => hb.block k hk
theorem GridAt.drewN (h : GridAt w B R cR rows bs) (n : Nat) : GridAt (w.drewN n) B R cR rows bs := h.of_blocks fun _ _ _ => rfl
theorem GridAt.far (h : GridAt w B R cR rows bs) {p : Addr} (hp : p.block < B ∨ w.heap.size ≤ p.block) (u : Value) : GridAt (w.setCell p u) B R cR rows bs :=
  h.of_blocks fun k h1 h2 => Below.heap_setCell w p u k (by omega)
/-- A store elsewhere: neither the outer row nor a row. -/
theorem GridAt.else_ (h : GridAt w B R cR rows bs) {p : Addr} (hR : R ≠ p.block) (hr : ∀ i, i < rows.length → bk bs i ≠ p.block) (u : Value) : GridAt (w.setCell p u) B R cR rows bs := by
  refine ⟨h.len, own_below h.out (Below.heap_setCell w p u R hR), fun i hi => (h.row i hi).far (hr i hi) u, h.nd⟩
theorem getD_set {α : Type} (l : List α) (i j : Nat) (x d : α) (hi : i < l.length) : (l.set i x).getD j d = if j = i then x else l.getD j d := by
  by_cases h : j = i
  · subst h
    simp [List.getD, hi]
  · rw [if_neg h]
    simp only [List.getD]
    rw [List.getElem?_set_ne (by omega)]
theorem hdrs_set (rows : List (List Nat)) (bs : List (Nat × Nat)) (hl : bs.length = rows.length) (i : Nat) (hi : i < rows.length) (r : List Nat) (b : Nat × Nat) :
    hdrs (rows.set i r) (bs.set i b) = (hdrs rows bs).set i (.slice (some ⟨b.1, 0, none⟩) r.length b.2) := by
  apply List.ext_getElem
  · simp [hdrs]
  · intro j h1 h2
    have hj : j < rows.length := by simpa [hdrs] using h1
    rw [List.getElem_set]
    simp only [hdrs, List.getElem_map, List.getElem_range, hdr, bk, cp, getD_set _ _ _ _ _ hi, getD_set bs i j b (0, 0) (by omega)]
    by_cases hij : i = j
    · subst hij; simp
    · rw [if_neg (fun e => hij e.symm), if_neg (fun e => hij e.symm), if_neg hij]
/-- A row replaced by a new one. -/
theorem GridAt.put (h : GridAt w B R cR rows bs) {i : Nat} (hi : i < rows.length) {g c : Nat} {r : List Nat} (hr : Row w B g c (nz r)) (hg : ∀ j, j < rows.length → bk bs j ≠ g) :
    GridAt (w.setCell ⟨R, i, none⟩ (.slice (some ⟨g, 0, none⟩) r.length c)) B R cR (rows.set i r) (bs.set i (g, c)) := by
  refine ⟨by simp [h.len], ?_, fun j hj => ?_, fun j k hj hk hjk => ?_⟩
  · rw [hdrs_set rows bs h.len i hi r (g, c), List.length_set]
    exact (World.ownsRow.stored h.out i _).1
  · rw [List.length_set] at hj
    unfold bk cp
    rw [getD_set _ _ _ _ _ hi, getD_set bs i j (g, c) (0, 0) (by rw [h.len]; exact hi)]
    by_cases hij : j = i
    · subst hij
      rw [if_pos rfl, if_pos rfl]
      exact hr.far (p := ⟨R, j, none⟩) (h.ne hr) _
    · rw [if_neg hij, if_neg hij]
      exact (h.row j hj).far (p := ⟨R, i, none⟩) (h.ne (h.row j hj)) _
  · rw [List.length_set] at hj hk
    unfold bk
    rw [getD_set bs i j (g, c) (0, 0) (by rw [h.len]; exact hi), getD_set bs i k (g, c) (0, 0) (by rw [h.len]; exact hi)]
    by_cases h1 : j = i
    · rw [if_pos h1, if_neg (by omega)]
      exact fun e => hg k hk e.symm
    · rw [if_neg h1]
      by_cases h2 : k = i
      · rw [if_pos h2]
        exact hg j hj
      · rw [if_neg h2]
        exact h.nd j k hj hk hjk
/-- A row changed in place. -/
theorem GridAt.turn (h : GridAt w B R cR rows bs) {i : Nat} (hi : i < rows.length) {r : List Nat} (hl : r.length = (rows.getD i []).length) (hr : Row w' B (bk bs i) (cp bs i) (nz r)) (hg : w.grownBy w' (some (bk bs i))) :
    GridAt w' B R cR (rows.set i r) bs := by
  have hne := h.ne (h.row i hi)
  refine ⟨by simp [h.len], ?_, fun j hj => ?_, fun j k hj hk hjk => h.nd j k (by simpa using hj) (by simpa using hk) hjk⟩
  · have e : hdrs (rows.set i r) bs = hdrs rows bs := by
      unfold hdrs
      rw [List.length_set]
      apply List.map_congr_left
      intro j _
      unfold hdr
      rw [getD_set _ _ _ _ _ hi]
      by_cases hij : j = i
      · subst hij; rw [if_pos rfl, hl]
      · rw [if_neg hij]
    rw [e, List.length_set]
    exact own_below h.out (hg.block R h.lt.2 (fun e => hne (by injection e with e; exact e.symm)))
  · rw [List.length_set] at hj
    rw [getD_set _ _ _ _ _ hi]
    by_cases hij : j = i
    · subst hij; rw [if_pos rfl]; exact hr
    · rw [if_neg hij]
      exact (h.row j hj).grown hg (fun e => h.nd j i hj hi hij (by injection e))
end
end Go.Proofs.YthiackegnpnmbaaGreat

namespace Go.Proofs.YthiackegnpnmbaaGreat
open Go.RowKit Pln

/-- A slice of slices that reads as rows of integers, below block B. -/
def RowsAt (w : World) (B : Nat) (A : Option Addr) (zs : List (List Int)) : Prop :=
  0 < zs.length → ∃ b o, A = some ⟨b, o, none⟩ ∧ b < B ∧ ∀ i, i < zs.length → ∃ (Ai : Option Addr) (ci : Nat), w.cell? ⟨b, o + i, none⟩ = some (.slice Ai (zs.getD i []).length ci) ∧ IntsAt w B Ai (zs.getD i [])
theorem RowsAt.keep {w w' : World} {B : Nat} {A : Option Addr} {zs : List (List Int)} (h : RowsAt w B A zs) (hb : Below B w w') : RowsAt w' B A zs := fun hz => by
  obtain ⟨b, o, e, hlt, hc⟩ := h hz
  refine ⟨b, o, e, hlt, fun i hi => ?_⟩
  obtain ⟨Ai, ci, h1, h2⟩ := hc i hi
  exact ⟨Ai, ci, (hb.cell (p := ⟨b, o + i, none⟩) hlt).trans h1, h2.keep hb⟩
theorem RowsAt.more {w : World} {B B' : Nat} {A : Option Addr} {zs : List (List Int)} (h : RowsAt w B A zs) (hB : B ≤ B') : RowsAt w B' A zs := fun hz => by
  obtain ⟨b, o, e, hlt, hc⟩ := h hz
  refine ⟨b, o, e, by omega, fun i hi => ?_⟩
  obtain ⟨Ai, ci, h1, h2⟩ := hc i hi
  exact ⟨Ai, ci, h1, h2.more hB⟩
theorem RowsAt.at_ {w : World} {B : Nat} {A : Option Addr} {zs : List (List Int)} (h : RowsAt w B A zs) {i : Nat} (hi : i < zs.length) : ∃ b o Ai ci, A = some ⟨b, o, none⟩ ∧ b < B ∧ w.cell? ⟨b, o + i, none⟩ = some (.slice Ai (zs.getD i []).length ci) ∧ IntsAt w B Ai (zs.getD i []) := by
  obtain ⟨b, o, e, hlt, hc⟩ := h (by omega)
  obtain ⟨Ai, ci, h1, h2⟩ := hc i hi
  exact ⟨b, o, Ai, ci, e, hlt, h1, h2⟩
def nzs (rows : List (List Nat)) : List (List Int) := rows.map nz
theorem nzs_len (rows : List (List Nat)) : (nzs rows).length = rows.length := by simp [nzs]
theorem nzs_getD (rows : List (List Nat)) (i : Nat) : (nzs rows).getD i [] = nz (rows.getD i []) := by
  unfold nzs
  simp only [List.getD, List.getElem?_map]
  cases rows[i]? <;> rfl

/-- In the midst of the copy. -/
structure PGrid (w : World) (B R : Nat) (rows : List (List Nat)) (bs : List (Nat × Nat)) (k : Nat) : Prop where
  len : bs.length = k
  le : k ≤ rows.length
  out : w.ownsRow B 23 1 (.slice (some ⟨R, 0, none⟩) rows.length rows.length) rows.length ((List.range k).map (hdr rows bs) ++ List.replicate (rows.length - k) (.slice none 0 0))
  row : ∀ i, i < k → Row w B (bk bs i) (cp bs i) (nz (rows.getD i []))
  nd : ∀ i j, i < k → j < k → i ≠ j → bk bs i ≠ bk bs j
theorem getD_snoc_lt {α : Type} {l : List α} {x d : α} {i : Nat} (hi : i < l.length) : (l ++ [x]).getD i d = l.getD i d := by
  simp only [List.getD]
  rw [List.getElem?_append_left hi]
theorem getD_snoc_eq {α : Type} (l : List α) (x d : α) : (l ++ [x]).getD l.length d = x := by simp [List.getD]
theorem PGrid.step {w w1 : World} {B R : Nat} {rows : List (List Nat)} {bs : List (Nat × Nat)} {k g c : Nat} (h : PGrid w B R rows bs k) (hk : k < rows.length) (hb : Below w.heap.size w w1) (_hB : B ≤ w.heap.size) (hr : Row w1 w.heap.size g c (nz (rows.getD k []))) :
    PGrid (w1.setCell ⟨R, k, none⟩ (.slice (some ⟨g, 0, none⟩) (rows.getD k []).length c)) B R rows (bs ++ [(g, c)]) (k + 1) := by
  have hR := World.ownsRow.lt h.out R rfl
  have hgl := hr.lt
  have hgR : g ≠ R := by omega
  refine ⟨by simp [h.len], hk, ?_, fun i hi => ?_, fun i j hi hj hij => ?_⟩
  · have h1 := (World.ownsRow.stored (own_below h.out (hb.block R hR.2)) k (.slice (some ⟨g, 0, none⟩) (rows.getD k []).length c)).1
    have e : ((List.range k).map (hdr rows bs) ++ List.replicate (rows.length - k) (Value.slice none 0 0)).set k (.slice (some ⟨g, 0, none⟩) (rows.getD k []).length c)
        = (List.range (k + 1)).map (hdr rows (bs ++ [(g, c)])) ++ List.replicate (rows.length - (k + 1)) (.slice none 0 0) := by
      rw [List.set_append_right _ _ (by simp), List.length_map, List.length_range, Nat.sub_self, show rows.length - k = (rows.length - (k + 1)) + 1 by omega, List.replicate_succ, List.set_cons_zero, List.range_succ, List.map_append, List.append_assoc]
      congr 1
      · apply List.map_congr_left
        intro i hi
        have hi' := List.mem_range.1 hi
        unfold hdr bk cp
        rw [getD_snoc_lt (by rw [h.len]; exact hi')]
      · simp only [List.map_cons, List.map_nil, List.singleton_append, hdr, bk, cp]
        have := getD_snoc_eq bs (g, c) (0, 0)
        rw [h.len] at this
        rw [this]
    rw [← e]
    exact h1
  · by_cases hik : i = k
    · subst hik
      unfold bk cp
      have := getD_snoc_eq bs (g, c) (0, 0)
      rw [h.len] at this
      rw [this]
      exact (hr.base (B' := B) (by omega)).far (p := ⟨R, i, none⟩) hgR _
    · have hi' : i < k := by omega
      unfold bk cp
      rw [getD_snoc_lt (by rw [h.len]; exact hi')]
      have hri := h.row i hi'
      refine (hri.below hb hri.lt.2).far (p := ⟨R, k, none⟩) ?_ _
      intro e
      obtain ⟨c1, e1⟩ := own_block h.out
      obtain ⟨c2, e2⟩ := own_block (e := 3) hri
      have e' : bk bs i = R := e
      rw [e', e1] at e2
      injection e2 with e2
      injection e2 with _ ht
      exact absurd ht (by decide)
  · unfold bk
    have hs := getD_snoc_eq bs (g, c) (0, 0)
    rw [h.len] at hs
    by_cases hik : i = k
    · subst hik
      rw [hs, getD_snoc_lt (i := j) (by rw [h.len]; omega)]
      have := (h.row j (by omega)).lt.2
      unfold bk at this
      omega
    · rw [getD_snoc_lt (i := i) (by rw [h.len]; omega)]
      by_cases hjk : j = k
      · subst hjk
        rw [hs]
        have := (h.row i (by omega)).lt.2
        unfold bk at this
        omega
      · rw [getD_snoc_lt (i := j) (by rw [h.len]; omega)]
        exact h.nd i j (by omega) (by omega) hij
theorem PGrid.done {w : World} {B R : Nat} {rows : List (List Nat)} {bs : List (Nat × Nat)} (h : PGrid w B R rows bs rows.length) : GridAt w B R rows.length rows bs := by
  refine ⟨h.len, ?_, h.row, h.nd⟩
  have := h.out
  rw [Nat.sub_self, List.replicate_zero, List.append_nil] at this
  exact this
def RelCl (w : World) (rows : List (List Nat)) (v11 : Value) (wr : World) : Prop :=
  ∃ k bs, v11 = .int .i64 ((k : Nat) : Int) ∧ PGrid wr w.heap.size w.heap.size rows bs k ∧ Below w.heap.size w wr

set_option maxHeartbeats 1000000 in
set_option maxRecDepth 100000 in
theorem clone_c (rows : List (List Nat)) (A : Option Addr) (c : Nat) (w : World) (hA : RowsAt w w.heap.size A (nzs rows)) (hr : ∀ r ∈ rows, 0 < r.length ∧ r.length ≤ 1000000) (hl : rows.length ≤ 1000000) :
    Calls Tryz.prog 231 #[.slice A rows.length c] w fun e w' => e = .returned (.slice (some ⟨w.heap.size, 0, none⟩) rows.length rows.length) ∧ (∃ bs, GridAt w' w.heap.size w.heap.size rows.length rows bs) ∧ Below w.heap.size w w' := by
  obtain ⟨i0, hi, hz0, hz1, hz2⟩ := info_parts infoInts
  have HI := Lib.hid hi
  have HZ0 := Lib.hid hz0
  have HZ1 := Lib.hid hz1
  have HB2 := Lib.hid (show i0.bytes * rows.length ≤ 281474976710656 by rw [hz2]; omega)
  have HB3 := Lib.hid (show rows.length ≤ maxLen by unfold maxLen; omega)
  have HA := Lib.hid hA
  have HRL : Hid (∀ k, k < rows.length → 0 < (rows.getD k []).length ∧ (rows.getD k []).length ≤ 1000000) := fun k hk => by
    have : rows.getD k [] = rows[k] := by simp [List.getD, hk]
    rw [this]
    exact hr _ (List.getElem_mem hk)
  clear hi hz0 hz1 hz2 hA hr
  go_enter Tryz.func231, Tryz.ntmps231
  go_wp2_with (refine wpList_make_full w rfl (.tmp 7) (.tmp 7) 28 rfl w.heap.size 23 i0 (.slice none 0 0) 1 Tryz.underlying28 HI.out HZ0.out HZ1.out .i64 .i64 rows.length rows.length rows.length rfl rfl rfl rfl HB2.out HB3.out (Nat.le_refl _) ?_; intro w1 hown hgr)
  have HS : Hid (RelCl w rows (.int .i64 ((0 : Nat) : Int)) w1) := by
    refine ⟨0, [], rfl, ⟨rfl, Nat.zero_le _, ?_, fun i hi => absurd hi (by omega), fun i j hi => absurd hi (by omega)⟩, below_of_grown hgr⟩
    have e : (List.range 0).map (hdr rows []) ++ List.replicate (rows.length - 0) (Value.slice none 0 0) = (madeCells (Value.slice none 0 0).cells (rows.length * 1)).toList := by
      apply List.ext_getElem
      · simp [madeCells]
      · intro i h1 h2
        simp [madeCells, Value.cells, Nat.mod_one]
    rw [e]
    exact hown
  clear hown hgr
  go_loopw [11] (fun v11 wr => RelCl w rows v11 wr) (fun v11 _ => rows.length - (intOf v11).toNat)
  case atStart => exact HS.out
  case round =>
    obtain ⟨k, bs, rfl, hpg, hb⟩ := hrel
    have HP := Lib.hid hpg
    have HB := Lib.hid hb
    have hk := hpg.le
    have hws : w.heap.size ≤ wr.heap.size := hb.size
    clear hpg hb HS
    by_cases hlt : k < rows.length
    · obtain ⟨b, o, Ai, ci, rfl, hbl, hc, hi⟩ := (HA.out.keep HB.out).at_ (i := k) (by rw [nzs_len]; exact hlt)
      rw [nzs_getD, nz_len] at hc
      rw [nzs_getD] at hi
      obtain ⟨hr1, hr2⟩ := HRL.out k hlt
      have HC : Hid (Calls Tryz.prog 74 #[.slice Ai (rows.getD k []).length ci] wr fun e w' => (∃ g c', e = .returned (.slice (some ⟨g, 0, none⟩) (rows.getD k []).length c') ∧ Row w' wr.heap.size g c' (nz (rows.getD k []))) ∧ Below wr.heap.size wr w') := by
        have h := sclone_c (nz (rows.getD k [])) Ai ci wr (hi.more hws) (by rw [nz_len]; exact hr1) (by rw [nz_len]; exact hr2)
        rw [nz_len] at h
        exact h
      have HST : Hid (∀ (w1 : World) (g c : Nat), Below wr.heap.size wr w1 → Row w1 wr.heap.size g c (nz (rows.getD k [])) → PGrid (w1.setCell ⟨w.heap.size, k, none⟩ (.slice (some ⟨g, 0, none⟩) (rows.getD k []).length c)) w.heap.size w.heap.size rows (bs ++ [(g, c)]) (k + 1)) := fun w1 g c h1 h2 => HP.out.step hlt h1 hws h2
      have hRl := World.ownsRow.lt HP.out.out w.heap.size rfl
      have HFR : Hid (wr.frozen? ⟨w.heap.size, k, none⟩ = false) := World.ownsRow.frozenAt HP.out.out k
      have HCE : Hid (wr.cell? ⟨w.heap.size, k, none⟩ = some (.slice none 0 0)) := by
        show _ = _
        rw [World.ownsRow.cellAt HP.out.out k (by omega), List.getElem?_append_right (by simp), List.length_map, List.length_range, Nat.sub_self, List.getElem?_replicate, if_pos (by omega)]
      clear hi HP
      generalize rows.getD k [] = r at *
      go_wp2_with fail
      (with_reducible refine HC.out.mono ?_)
      rintro e w2 ⟨⟨g, c', rfl, hrow⟩, hb2⟩
      have HR := Lib.hid hrow
      have HB2' := Lib.hid hb2
      have f2 : w2.frozen? ⟨w.heap.size, k, none⟩ = false := (hb2.frozen (p := ⟨w.heap.size, k, none⟩) hRl.2).trans HFR.out
      have c2 : w2.cell? ⟨w.heap.size, k, none⟩ = some (.slice none 0 0) := (hb2.cell (p := ⟨w.heap.size, k, none⟩) hRl.2).trans HCE.out
      clear hrow hb2
      go_wp2_with fail
      go_roundw
      case rel => exact ⟨k + 1, bs ++ [(g, c')], by go_num, HST.out w2 g c' HB2'.out HR.out, (HB.out.trans (HB2'.out.mono hws)).setCell (p := ⟨w.heap.size, k, none⟩) (Nat.le_refl _) _⟩
      case measure => simp [intOf]; omega
    · obtain rfl : k = rows.length := by omega
      go_wp2_with fail
      go_ret
      exact ⟨rfl, ⟨bs, HP.out.done⟩, HB.out⟩
end Go.Proofs.YthiackegnpnmbaaGreat

