/-
  The steps of an elimination: exchange, scaling, clearing.
-/
import Derived.Test.YtcfejnnhcdlffaaGreatGd
import Derived.RegionTactic
import Derived.BigRegion
namespace Go.Proofs.YtcfejnnhcdlffaaGreat
open Go.RowKit Pln

/-- A world with nothing changed but block R, up to draws. -/
def SwapBs (bs : List (Nat × Nat)) (i j : Nat) : List (Nat × Nat) := (bs.set i (bs.getD j (0, 0))).set j (bs.getD i (0, 0))
theorem GridAt.swap {w : World} {B R cR : Nat} {rows : List (List Nat)} {bs : List (Nat × Nat)} (h : GridAt w B R cR rows bs) {i j : Nat} (hi : i < rows.length) (hj : j < rows.length) (hij : i ≠ j) :
    GridAt ((w.setCell ⟨R, i, none⟩ (hdr rows bs j)).setCell ⟨R, j, none⟩ (hdr rows bs i)) B R cR (swapRows rows i j) (SwapBs bs i j) := by
  have hl := h.len
  have e1 : ∀ k, k < rows.length → (SwapBs bs i j).getD k (0, 0) = if k = j then bs.getD i (0, 0) else if k = i then bs.getD j (0, 0) else bs.getD k (0, 0) := fun k _ => by
    unfold SwapBs
    rw [getD_set _ _ _ _ _ (by simp; omega), getD_set _ _ _ _ _ (by omega)]
  have e2 : ∀ k, k < rows.length → (swapRows rows i j).getD k [] = if k = j then rows.getD i [] else if k = i then rows.getD j [] else rows.getD k [] := fun k _ => by
    unfold swapRows
    rw [getD_set _ _ _ _ _ (by simp; omega), getD_set _ _ _ _ _ (by omega)]
  have hlr : (swapRows rows i j).length = rows.length := by simp [swapRows]
  have eh : hdrs (swapRows rows i j) (SwapBs bs i j) = ((hdrs rows bs).set i (hdr rows bs j)).set j (hdr rows bs i) := by
    apply List.ext_getElem
    · simp [hdrs, hlr]
    · intro k h1 h2
      have hk : k < rows.length := by simpa [hdrs, hlr] using h1
      rw [List.getElem_set, List.getElem_set]
      simp only [hdrs, List.getElem_map, List.getElem_range, hdr, bk, cp, e1 k hk, e2 k hk]
      by_cases h3 : k = j
      · subst h3; simp
      · have h3' : ¬ j = k := fun e => h3 e.symm
        by_cases h4 : k = i
        · simp only [if_neg h3, if_neg h3', if_pos h4, if_pos h4.symm]
        · have h4' : ¬ i = k := fun e => h4 e.symm
          simp only [if_neg h3, if_neg h3', if_neg h4, if_neg h4']
  have hstay : ∀ k, k < rows.length → Row ((w.setCell ⟨R, i, none⟩ (hdr rows bs j)).setCell ⟨R, j, none⟩ (hdr rows bs i)) B (bk bs k) (cp bs k) (nz (rows.getD k [])) := fun k hk =>
    ((h.row k hk).far (p := ⟨R, i, none⟩) (h.ne (h.row k hk)) _).far (p := ⟨R, j, none⟩) (h.ne (h.row k hk)) _
  refine ⟨by simp [SwapBs, hl, hlr], ?_, fun k hk => ?_, fun k k' hk hk' hkk => ?_⟩
  · rw [eh, hlr]
    exact (World.ownsRow.stored (World.ownsRow.stored h.out i _).1 j _).1
  · rw [hlr] at hk
    unfold bk cp
    rw [e1 k hk, e2 k hk]
    by_cases h3 : k = j
    · rw [if_pos h3, if_pos h3]; exact hstay i hi
    · rw [if_neg h3, if_neg h3]
      by_cases h4 : k = i
      · rw [if_pos h4, if_pos h4]; exact hstay j hj
      · rw [if_neg h4, if_neg h4]; exact hstay k hk
  · rw [hlr] at hk hk'
    have hnd := h.nd
    unfold bk at hnd ⊢
    have e3 : ∀ k, k < rows.length → (SwapBs bs i j).getD k (0, 0) = bs.getD (if k = j then i else if k = i then j else k) (0, 0) := fun k hk => by
      rw [e1 k hk]
      split
      · rfl
      · split <;> rfl
    rw [e3 k hk, e3 k' hk']
    refine hnd _ _ ?_ ?_ ?_
    · split
      · exact hi
      · split
        · exact hj
        · exact hk
    · split
      · exact hi
      · split
        · exact hj
        · exact hk'
    · repeat' split
      all_goals omega
theorem hdr_at {w : World} {B R cR : Nat} {rows : List (List Nat)} {bs : List (Nat × Nat)} (h : GridAt w B R cR rows bs) {i : Nat} (hi : i < rows.length) : w.cell? ⟨R, i, none⟩ = some (hdr rows bs i) := h.cell hi

set_option maxHeartbeats 1000000 in
set_option maxRecDepth 100000 in
theorem swap_c (B R cR i j gi gj : Nat) (rows : List (List Nat)) (bs : List (Nat × Nat)) (w : World) (hG : GridAt w B R cR rows bs) (hi : i < rows.length) (hj : j < rows.length) (hij : i ≠ j) (_hl : rows.length ≤ 1000000)
    (hci : w.cell? ⟨gi, 0, none⟩ = some (.int .i64 i)) (hcj : w.cell? ⟨gj, 0, none⟩ = some (.int .i64 j)) (hgi : gi ≠ R) (hgj : gj ≠ R) :
    Calls Tryz.prog 194 #[.slice (some ⟨R, 0, none⟩) rows.length cR, .pointer (some ⟨gj, 0, none⟩), .pointer (some ⟨gi, 0, none⟩)] w fun e w' => e = .returned (.tuple #[]) ∧ GridAt w' B R cR (swapRows rows i j) (SwapBs bs i j) ∧ w.grownBy w' (some R) := by
  have HSW := Lib.hid (hG.swap hi hj hij)
  have HGR : Hid (w.grownBy ((w.setCell ⟨R, i, none⟩ (hdr rows bs j)).setCell ⟨R, j, none⟩ (hdr rows bs i)) (some R)) := grown_trans (grown_set w ⟨R, i, none⟩ _) (grown_set _ ⟨R, j, none⟩ _)
  have h1 := hdr_at hG hi
  have h2 := hdr_at hG hj
  have f1 := hG.frozen i
  have f2 := hG.frozen j
  have i0 : (0 : Int) ≤ (i : Int) := by omega
  have i1 : (i : Int) < (rows.length : Int) := by omega
  have j0 : (0 : Int) ≤ (j : Int) := by omega
  have j1 : (j : Int) < (rows.length : Int) := by omega
  have HIJ := Lib.hid hij
  clear hG
  obtain ⟨A1, n1, c1, e1⟩ : ∃ A n c, hdr rows bs i = .slice A n c := ⟨_, _, _, rfl⟩
  obtain ⟨A2, n2, c2, e2⟩ : ∃ A n c, hdr rows bs j = .slice A n c := ⟨_, _, _, rfl⟩
  rw [e1, e2] at HSW HGR
  rw [e1] at h1
  rw [e2] at h2
  clear e1 e2
  go_enter Tryz.func194, Tryz.ntmps194
  have hji : j ≠ i := fun e => hij e.symm
  have hRi : R ≠ gi := fun e => hgi e.symm
  have hRj : R ≠ gj := fun e => hgj e.symm
  go_region
  all_goals (go_end0; exact ⟨rfl, HSW.out.drewN 1, grown_trans HGR.out (grown_drewN _ 1 _)⟩)
#print axioms swap_c

set_option maxHeartbeats 1000000 in
set_option maxRecDepth 100000 in
theorem scrow_c (B R cR i bg bi ba gb p m a : Nat) (md l : List Nat) (rows : List (List Nat)) (bs : List (Nat × Nat)) (w : World) (hF : FT p m md l) (hG : GFAt w w.heap.size gb p m l (logL l (p ^ m))) (hD : GridAt w B R cR rows bs) (hi : i < rows.length) (_hl : rows.length ≤ 1000000)
    (ha : a < p ^ m) (hv : ∀ x ∈ rows.getD i [], x < p ^ m) (hl2 : (rows.getD i []).length ≤ 1000) (hB : B ≤ w.heap.size)
    (hcg : w.cell? ⟨bg, 0, none⟩ = some (.pointer (some ⟨gb, 0, none⟩))) (hci : w.cell? ⟨bi, 0, none⟩ = some (.int .i64 a)) (hca : w.cell? ⟨ba, 0, none⟩ = some (.int .i64 i)) :
    Calls Tryz.prog 195 #[.slice (some ⟨R, 0, none⟩) rows.length cR, .pointer (some ⟨bg, 0, none⟩), .pointer (some ⟨bi, 0, none⟩), .pointer (some ⟨ba, 0, none⟩)] w fun e w' => e = .returned (.tuple #[]) ∧ GridAt w' B R cR (rows.set i (scaleRow (opsT p m l) a (rows.getD i []))) (bs.set i (w.heap.size, (rows.getD i []).length)) ∧ w.grownBy w' (some R) := by
  have hrow := hD.row i hi
  have HSC := Lib.hid (scale_c a gb p m md l (rows.getD i []) (some ⟨bk bs i, 0, none⟩) (cp bs i) w.drew hF (show GFAt w.drew w.drew.heap.size gb p m l (logL l (p ^ m)) from hG) ha hv (show IntsAt w.drew w.drew.heap.size (some ⟨bk bs i, 0, none⟩) (nz (rows.getD i [])) from hrow.ints hrow.lt.2) hl2)
  have h1 := hD.cell hi
  have HD := Lib.hid hD
  have i0 : (0 : Int) ≤ (i : Int) := by omega
  have i1 : (i : Int) < (rows.length : Int) := by omega
  have hbg : bg < w.heap.size := World.block_lt_of_cell? w _ hcg
  have hbi : bi < w.heap.size := World.block_lt_of_cell? w _ hci
  have hba : ba < w.heap.size := World.block_lt_of_cell? w _ hca
  have hRl := hD.lt.2
  have HFI : Hid (w.frozen? ⟨R, i, none⟩ = false) := hD.frozen i
  have HRL : Hid ((scaleRow (opsT p m l) a (rows.getD i [])).length = (rows.getD i []).length) := by show _ = _; simp [scaleRow]
  clear hD hrow hF hG hv
  generalize hsr : scaleRow (opsT p m l) a (rows.getD i []) = sr at *
  clear hsr
  generalize (rows.getD i []).length = n at *
  generalize bk bs i = gi at *
  generalize cp bs i = ci at *
  go_enter Tryz.func195, Tryz.ntmps195
  have hfi := HFI.out
  go_region_law (go_simp; (with_reducible refine HSC.out.mono ?_); rintro e w1 ⟨rfl, hr1, hb1⟩; have k1 := (hb1.cell (p := ⟨bg, 0, none⟩) hbg).trans hcg; have k2 := (hb1.cell (p := ⟨bi, 0, none⟩) hbi).trans hci; have k3 := (hb1.cell (p := ⟨ba, 0, none⟩) hba).trans hca; have k4 := (hb1.cell (p := ⟨R, i, none⟩) hRl).trans h1; have k5 := (hb1.frozen (p := ⟨R, i, none⟩) hRl).trans hfi)
  all_goals
    have hb2 : Below w.heap.size w w1 := ⟨hb1.os, hb1.tape, hb1.output, hb1.size, hb1.block⟩
    have hr2 : Row w1 w.heap.size w.heap.size n (nz sr) := hr1
    have hput := (HD.out.grow hb2).put hi (r := sr) (hr2.base (B' := B) hB) (fun j hj => by have := (HD.out.row j hj).lt.2; omega)
    rw [HRL.out] at hput
    have hgw : w.grownBy (w1.setCell ⟨R, i, none⟩ (.slice (some ⟨w.heap.size, 0, none⟩) n n)) (some R) := grown_trans ⟨hb2.os, hb2.tape, hb2.output, hb2.size, fun k hk _ => hb2.block k hk⟩ (grown_set w1 ⟨R, i, none⟩ _)
    go_end0
    exact ⟨rfl, hput, hgw⟩
#print axioms scrow_c

set_option maxHeartbeats 1000000 in
set_option maxRecDepth 100000 in
theorem clrow_c (B R cR i t bg bi bx ba gb Bg p m x : Nat) (md l : List Nat) (rows : List (List Nat)) (bs : List (Nat × Nat)) (w : World) (hF : FT p m md l) (hG : GFAt w Bg gb p m l (logL l (p ^ m))) (hBg : Bg ≤ B) (hD : GridAt w B R cR rows bs) (hi : i < rows.length) (ht : t < rows.length) (hit : i ≠ t) (_hl : rows.length ≤ 1000000)
    (hx : x < p ^ m) (hv : ∀ y ∈ rows.getD i [], y < p ^ m) (hu : ∀ y ∈ rows.getD t [], y < p ^ m) (hlen : (rows.getD i []).length = (rows.getD t []).length) (hl2 : (rows.getD i []).length ≤ 1000)
    (hcg : w.cell? ⟨bg, 0, none⟩ = some (.pointer (some ⟨gb, 0, none⟩))) (hci : w.cell? ⟨bi, 0, none⟩ = some (.int .i64 i)) (hcx : w.cell? ⟨bx, 0, none⟩ = some (.int .i64 x)) (hca : w.cell? ⟨ba, 0, none⟩ = some (.int .i64 t)) :
    Calls Tryz.prog 196 #[.slice (some ⟨R, 0, none⟩) rows.length cR, .pointer (some ⟨bg, 0, none⟩), .pointer (some ⟨bi, 0, none⟩), .pointer (some ⟨bx, 0, none⟩), .pointer (some ⟨ba, 0, none⟩)] w fun e w' => e = .returned (.tuple #[]) ∧ GridAt w' B R cR (rows.set i (addRow (opsT p m l) (rows.getD i []) (negD p m x) (rows.getD t []))) bs ∧ w.grownBy w' (some (bk bs i)) := by
  have hri := hD.row i hi
  have hrt := hD.row t ht
  have HNG : Hid (∀ W, SDrew w W → Calls Tryz.prog 134 #[.pointer (some ⟨gb, 0, none⟩), .int .i64 (x : Int)] W fun e w' => e = .returned (.int .i64 ((negD p m x : Nat) : Int)) ∧ SDrew w w') := fun W ⟨n, hW⟩ => by
    subst hW
    refine (neg_c x gb p m Bg l _ _ hF.small (show GFAt (w.drewN n) Bg gb p m l (logL l (p ^ m)) from hG) hx).mono ?_
    rintro e w' ⟨he, k, rfl⟩
    exact ⟨he, n + k, by rw [World.drewN_drewN]⟩
  have HAD : Hid (∀ n, Calls Tryz.prog 197 #[.pointer (some ⟨gb, 0, none⟩), .slice (some ⟨bk bs i, 0, none⟩) (rows.getD i []).length (cp bs i), .int .i64 ((negD p m x : Nat) : Int), .slice (some ⟨bk bs t, 0, none⟩) (rows.getD t []).length (cp bs t)] (w.drewN n) fun e w' => e = .returned (.tuple #[]) ∧ Row w' B (bk bs i) (cp bs i) (nz (addRow (opsT p m l) (rows.getD i []) (negD p m x) (rows.getD t []))) ∧ (w.drewN n).grownBy w' (some (bk bs i))) := fun n => by
    have h := madd_c (negD p m x) gb p m Bg B (bk bs i) (cp bs i) (bk bs t) (cp bs t) md l (rows.getD i []) (rows.getD t []) (w.drewN n) hF (show GFAt (w.drewN n) Bg gb p m l (logL l (p ^ m)) from hG) (Nat.le_trans hBg hri.lt.1) (negD_lt (by have := hF.small.p1; omega) m x) hv hu hri hrt (fun e => hD.nd i t hi ht hit e.symm) hlen hl2
    rw [← hlen]
    exact h
  have HD := Lib.hid hD
  have h1 := hD.cell hi
  have h2 := hD.cell ht
  have i0 : (0 : Int) ≤ (i : Int) := by omega
  have i1 : (i : Int) < (rows.length : Int) := by omega
  have t0 : (0 : Int) ≤ (t : Int) := by omega
  have t1 : (t : Int) < (rows.length : Int) := by omega
  have HLR : Hid ((addRow (opsT p m l) (rows.getD i []) (negD p m x) (rows.getD t [])).length = (rows.getD i []).length) := addRow_len _ _ _ _ hlen
  clear hD hri hrt hF hG hv hu hlen
  generalize addRow (opsT p m l) (rows.getD i []) (negD p m x) (rows.getD t []) = ar at *
  generalize negD p m x = nx at *
  have HE : Hid ((rows.getD i []).length = (rows.getD i []).length) := rfl
  generalize hni : (rows.getD i []).length = n1 at *
  generalize hnt : (rows.getD t []).length = n2 at *
  have HNI := Lib.hid hni
  clear hni hnt HE
  go_enter Tryz.func196, Tryz.ntmps196
  refine wp_region_keep_tail 12 (SDrew w) (by kernel_rfl) (by kernel_rfl) ⟨1, rfl⟩ ?_
  simp only [List.take_succ_cons, List.take_zero, List.drop_succ_cons, List.drop_zero]
  repeat (first
    | (apply keep_val rfl
       · intro W hS
         obtain ⟨n, rfl⟩ := hS
         go_simp
         rfl
       go_simp)
    | (apply keep_call rfl
       · intro W hS
         go_simp
         exact ⟨rfl, rfl⟩
       · intro W hS
         exact HNG.out W hS
       go_simp))
  refine wpKeep_nil ?_
  intro w2 hS2
  obtain ⟨n, rfl⟩ := hS2
  clear hcg hci hcx hca h1 h2
  go_wp2_with fail
  (with_reducible refine (HAD.out n).mono ?_)
  rintro e w3 ⟨rfl, hr3, hg3⟩
  have HR3 := Lib.hid hr3
  have HG3 := Lib.hid hg3
  clear hr3 hg3
  go_wp2_with fail
  go_end0
  exact ⟨rfl, (HD.out.drewN n).turn hi (by rw [HLR.out, HNI.out]) HR3.out HG3.out, grown_trans (grown_drewN w n _) HG3.out⟩
#print axioms clrow_c
end Go.Proofs.YtcfejnnhcdlffaaGreat
