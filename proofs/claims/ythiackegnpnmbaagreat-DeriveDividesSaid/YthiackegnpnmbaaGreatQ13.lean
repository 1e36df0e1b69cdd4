/-
  The steps of an elimination: exchange, scaling, clearing. matrix.eliminate: a step done to the rows (there are no other rows). matrix.eliminate: what its rounds keep.
-/
import Derived.RegionTactic
import Derived.BigRegion
import Derived.Test.YthiackegnpnmbaaGreatQ12
namespace Go.Proofs.YthiackegnpnmbaaGreat
open Go.RowKit Pln

/-- A world with nothing changed but block R, up to draws. -/
def SwapBs (bs : List (Nat × Nat)) (i j : Nat) : List (Nat × Nat) := (bs.set i (bs.getD j (0, 0))).set j (bs.getD i (0, 0))
theorem GridAt.swap {w : World} {B R cR : Nat} {rows : List (List Nat)} {bs : List (Nat × Nat)} (h : GridAt w B R cR rows bs) {i j : Nat} (hi : i < rows.length) (hj : j < rows.length) (hij : i ≠ j) :
    GridAt ((w.setCell ⟨R, i, none⟩ (hdr rows bs j)).setCell ⟨R, j, none⟩ (hdr rows bs i)) B R cR (swapRows rows i j) (SwapBs bs i j) := by
  have hl := h.len
  have e1 : ∀ k, k < rows.length → (SwapBs bs i j).getD k (0, 0) = if k = j then bs.getD i (0, 0) else if k = i then bs.getD j (0, 0) else bs.getD k (0, 0) := fun k _ => by
    unfold SwapBs
    rw [getD_set _ _ _ _ _ (by simp; omega), getD_set _ _ _ _ _ (by omega)]
  have e2 : ∀ k, k < rows.length → (swapRows rows i j).getD k [] = if k = j then rows.getD i [] else if k = i then rows.getD j [] else rows.getD k [] := fun k _ => by
    unfold swapRows
    rw [getD_set _ _ _ _ _ (by simp; omega), getD_set _ _ _ _ _ (by omega)]
  have hlr : (swapRows rows i j).length = rows.length := by simp [swapRows]
  have eh : hdrs (swapRows rows i j) (SwapBs bs i j) = ((hdrs rows bs).set i (hdr rows bs j)).set j (hdr rows bs i) := by
    apply List.ext_getElem
    · simp [hdrs, hlr]
    · intro k h1 h2
      have hk : k < rows.length := by simpa [hdrs, hlr] using h1
      rw [List.getElem_set, List.getElem_set]
      simp only [hdrs, List.getElem_map, List.getElem_range, hdr, bk, cp, e1 k hk, e2 k hk]
      by_cases h3 : k = j
      · subst h3; simp
      · have h3' : ¬ j = k := fun e => h3 e.symm
        by_cases h4 : k = i
        · simp only [if_neg h3, if_neg h3', if_pos h4, if_pos h4.symm]
        · have h4' : ¬ i = k := fun e => h4 e.symm
          simp only [if_neg h3, if_neg h3', if_neg h4, if_neg h4']
  have hstay : ∀ k, k < rows.length → Row ((w.setCell ⟨R, i, none⟩ (hdr rows bs j)).setCell ⟨R, j, none⟩ (hdr rows bs i)) B (bk bs k) (cp bs k) (nz (rows.getD k [])) := fun k hk =>
    ((h.row k hk).far (p := ⟨R, i, none⟩) (h.ne (h.row k hk)) _).far (p := ⟨R, j, none⟩) (h.ne (h.row k hk)) _
  refine ⟨by simp [SwapBs, hl, hlr], ?_, fun k hk => ?_, fun k k' hk hk' hkk => ?_⟩
  · rw [eh, hlr]
    exact (World.ownsRow.stored (World.ownsRow.stored h.out i _).1 j _).1
  · rw [hlr] at hk
    unfold bk cp
    rw [e1 k hk, e2 k hk]
    by_cases h3 : k = j
    · rw [if_pos h3, if_pos h3]; exact hstay i hi
    · rw [if_neg h3, if_neg h3]
      by_cases h4 : k = i
      · rw [if_pos h4, if_pos h4]; exact hstay j hj
      · rw [if_neg h4, if_neg h4]; exact hstay k hk
  · rw [hlr] at hk hk'
    have hnd := h.nd
    unfold bk at hnd ⊢
    have e3 : ∀ k, k < rows.length → (SwapBs bs i j).getD k (0, 0) = bs.getD (if k = j then i else if k = i then j else k) (0, 0) := fun k hk => by
      rw [e1 k hk]
      split
      · rfl
      · split <;> rfl
    rw [e3 k hk, e3 k' hk']
    refine hnd _ _ ?_ ?_ ?_
    · split
      · exact hi
      · split
        · exact hj
        · exact hk
    · split
      · exact hi
      · split
        · exact hj
        · exact hk'
    · repeat' split
      all_goals omega
theorem hdr_at {w : World} {B R cR : Nat} {rows : List (List Nat)} {bs : List (Nat × Nat)} (h : GridAt w B R cR rows bs) {i : Nat} (hi : i < rows.length) : w.cell? ⟨R, i, none⟩ = some (hdr rows bs i) := h.cell hi

set_option maxHeartbeats 1000000 in
set_option maxRecDepth 100000 in
theorem swap_c (B R cR i j gi gj : Nat) (rows : List (List Nat)) (bs : List (Nat × Nat)) (w : World) (hG : GridAt w B R cR rows bs) (hi : i < rows.length) (hj : j < rows.length) (hij : i ≠ j) (_hl : rows.length ≤ 1000000)
    (hci : w.cell? ⟨gi, 0, none⟩ = some (.int .i64 i)) (hcj : w.cell? ⟨gj, 0, none⟩ = some (.int .i64 j)) (hgi : gi ≠ R) (hgj : gj ≠ R) :
    Calls Tryz.prog 252 #[.slice (some ⟨R, 0, none⟩) rows.length cR, .pointer (some ⟨gj, 0, none⟩), .pointer (some ⟨gi, 0, none⟩)] w fun e w' => e = .returned (.tuple #[]) ∧ GridAt w' B R cR (swapRows rows i j) (SwapBs bs i j) ∧ w.grownBy w' (some R) := by
  have HSW := Lib.hid (hG.swap hi hj hij)
  have HGR : Hid (w.grownBy ((w.setCell ⟨R, i, none⟩ (hdr rows bs j)).setCell ⟨R, j, none⟩ (hdr rows bs i)) (some R)) := grown_trans (grown_set w ⟨R, i, none⟩ _) (grown_set _ ⟨R, j, none⟩ _)
  have h1 := hdr_at hG hi
  have h2 := hdr_at hG hj
  have f1 := hG.frozen i
  have f2 := hG.frozen j
  have i0 : (0 : Int) ≤ (i : Int) := by omega
  have i1 : (i : Int) < (rows.length : Int) := by omega
  have j0 : (0 : Int) ≤ (j : Int) := by omega
  have j1 : (j : Int) < (rows.length : Int) := by omega
  have HIJ := Lib.hid hij
  clear hG
  obtain ⟨A1, n1, c1, e1⟩ : ∃ A n c, hdr rows bs i = .slice A n c := ⟨_, _, _, rfl⟩
  obtain ⟨A2, n2, c2, e2⟩ : ∃ A n c, hdr rows bs j = .slice A n c := ⟨_, _, _, rfl⟩
  rw [e1, e2] at HSW HGR
  rw [e1] at h1
  rw [e2] at h2
  clear e1 e2
  go_enter Tryz.func252, Tryz.ntmps252
  have hji : j ≠ i := fun e => hij e.symm
  have hRi : R ≠ gi := fun e => hgi e.symm
  have hRj : R ≠ gj := fun e => hgj e.symm
  go_region
  all_goals (go_end0; exact ⟨rfl, HSW.out.drewN 1, grown_trans HGR.out (grown_drewN _ 1 _)⟩)
set_option maxHeartbeats 1000000 in
set_option maxRecDepth 100000 in
theorem scrow_c (B R cR i bg bi ba gb p m a : Nat) (md l : List Nat) (rows : List (List Nat)) (bs : List (Nat × Nat)) (w : World) (hF : FT p m md l) (hG : GFAt w w.heap.size gb p m l (logL l (p ^ m))) (hD : GridAt w B R cR rows bs) (hi : i < rows.length) (_hl : rows.length ≤ 1000000)
    (ha : a < p ^ m) (hv : ∀ x ∈ rows.getD i [], x < p ^ m) (hl2 : (rows.getD i []).length ≤ 1000) (hB : B ≤ w.heap.size)
    (hcg : w.cell? ⟨bg, 0, none⟩ = some (.pointer (some ⟨gb, 0, none⟩))) (hci : w.cell? ⟨bi, 0, none⟩ = some (.int .i64 a)) (hca : w.cell? ⟨ba, 0, none⟩ = some (.int .i64 i)) :
    Calls Tryz.prog 253 #[.slice (some ⟨R, 0, none⟩) rows.length cR, .pointer (some ⟨bg, 0, none⟩), .pointer (some ⟨bi, 0, none⟩), .pointer (some ⟨ba, 0, none⟩)] w fun e w' => e = .returned (.tuple #[]) ∧ GridAt w' B R cR (rows.set i (scaleRow (opsT p m l) a (rows.getD i []))) (bs.set i (w.heap.size, (rows.getD i []).length)) ∧ w.grownBy w' (some R) := by
  have hrow := hD.row i hi
  have HSC := Lib.hid (scale_c a gb p m md l (rows.getD i []) (some ⟨bk bs i, 0, none⟩) (cp bs i) w.drew hF (show GFAt w.drew w.drew.heap.size gb p m l (logL l (p ^ m)) from hG) ha hv (show IntsAt w.drew w.drew.heap.size (some ⟨bk bs i, 0, none⟩) (nz (rows.getD i [])) from hrow.ints hrow.lt.2) hl2)
  have h1 := hD.cell hi
  have HD := Lib.hid hD
  have i0 : (0 : Int) ≤ (i : Int) := by omega
  have i1 : (i : Int) < (rows.length : Int) := by omega
  have hbg : bg < w.heap.size := World.block_lt_of_cell? w _ hcg
  have hbi : bi < w.heap.size := World.block_lt_of_cell? w _ hci
  have hba : ba < w.heap.size := World.block_lt_of_cell? w _ hca
  have hRl := hD.lt.2
  have HFI : Hid (w.frozen? ⟨R, i, none⟩ = false) := hD.frozen i
  have HRL : Hid ((scaleRow (opsT p m l) a (rows.getD i [])).length = (rows.getD i []).length) := by show _ = _; simp [scaleRow]
  clear hD hrow hF hG hv
  generalize hsr : scaleRow (opsT p m l) a (rows.getD i []) = sr at *
  clear hsr
  generalize (rows.getD i []).length = n at *
  generalize bk bs i = gi at *
  generalize cp bs i = ci at *
  go_enter Tryz.func253, Tryz.ntmps253
  have hfi := HFI.out
  go_region_law (go_simp; (with_reducible refine HSC.out.mono ?_); rintro e w1 ⟨rfl, hr1, hb1⟩; have k1 := (hb1.cell (p := ⟨bg, 0, none⟩) hbg).trans hcg; have k2 := (hb1.cell (p := ⟨bi, 0, none⟩) hbi).trans hci; have k3 := (hb1.cell (p := ⟨ba, 0, none⟩) hba).trans hca; have k4 := (hb1.cell (p := ⟨R, i, none⟩) hRl).trans h1; have k5 := (hb1.frozen (p := ⟨R, i, none⟩) hRl).trans hfi)
  all_goals
    have hb2 : Below w.heap.size w w1 := ⟨hb1.os, hb1.tape, hb1.output, hb1.size, hb1.block⟩
    have hr2 : Row w1 w.heap.size w.heap.size n (nz sr) := hr1
    have hput := (HD.out.grow hb2).put hi (r := sr) (hr2.base (B' := B) hB) (fun j hj => by have := (HD.out.row j hj).lt.2; omega)
    rw [HRL.out] at hput
    have hgw : w.grownBy (w1.setCell ⟨R, i, none⟩ (.slice (some ⟨w.heap.size, 0, none⟩) n n)) (some R) := grown_trans ⟨hb2.os, hb2.tape, hb2.output, hb2.size, fun k hk _ => hb2.block k hk⟩ (grown_set w1 ⟨R, i, none⟩ _)
    go_end0
    exact ⟨rfl, hput, hgw⟩
set_option maxHeartbeats 1000000 in
set_option maxRecDepth 100000 in
theorem clrow_c (B R cR i t bg bi bx ba gb Bg p m x : Nat) (md l : List Nat) (rows : List (List Nat)) (bs : List (Nat × Nat)) (w : World) (hF : FT p m md l) (hG : GFAt w Bg gb p m l (logL l (p ^ m))) (hBg : Bg ≤ B) (hD : GridAt w B R cR rows bs) (hi : i < rows.length) (ht : t < rows.length) (hit : i ≠ t) (_hl : rows.length ≤ 1000000)
    (hx : x < p ^ m) (hv : ∀ y ∈ rows.getD i [], y < p ^ m) (hu : ∀ y ∈ rows.getD t [], y < p ^ m) (hlen : (rows.getD i []).length = (rows.getD t []).length) (hl2 : (rows.getD i []).length ≤ 1000)
    (hcg : w.cell? ⟨bg, 0, none⟩ = some (.pointer (some ⟨gb, 0, none⟩))) (hci : w.cell? ⟨bi, 0, none⟩ = some (.int .i64 i)) (hcx : w.cell? ⟨bx, 0, none⟩ = some (.int .i64 x)) (hca : w.cell? ⟨ba, 0, none⟩ = some (.int .i64 t)) :
    Calls Tryz.prog 254 #[.slice (some ⟨R, 0, none⟩) rows.length cR, .pointer (some ⟨bg, 0, none⟩), .pointer (some ⟨bi, 0, none⟩), .pointer (some ⟨bx, 0, none⟩), .pointer (some ⟨ba, 0, none⟩)] w fun e w' => e = .returned (.tuple #[]) ∧ GridAt w' B R cR (rows.set i (addRow (opsT p m l) (rows.getD i []) (negD p m x) (rows.getD t []))) bs ∧ w.grownBy w' (some (bk bs i)) := by
  have hri := hD.row i hi
  have hrt := hD.row t ht
  have HNG : Hid (∀ W, SDrew w W → Calls Tryz.prog 132 #[.pointer (some ⟨gb, 0, none⟩), .int .i64 (x : Int)] W fun e w' => e = .returned (.int .i64 ((negD p m x : Nat) : Int)) ∧ SDrew w w') := fun W ⟨n, hW⟩ => by
    subst hW
    refine (neg_c x gb p m Bg l _ _ hF.small (show GFAt (w.drewN n) Bg gb p m l (logL l (p ^ m)) from hG) hx).mono ?_
    rintro e w' ⟨he, k, rfl⟩
    exact ⟨he, n + k, by rw [World.drewN_drewN]⟩
  have HAD : Hid (∀ n, Calls Tryz.prog 233 #[.pointer (some ⟨gb, 0, none⟩), .slice (some ⟨bk bs i, 0, none⟩) (rows.getD i []).length (cp bs i), .int .i64 ((negD p m x : Nat) : Int), .slice (some ⟨bk bs t, 0, none⟩) (rows.getD t []).length (cp bs t)] (w.drewN n) fun e w' => e = .returned (.tuple #[]) ∧ Row w' B (bk bs i) (cp bs i) (nz (addRow (opsT p m l) (rows.getD i []) (negD p m x) (rows.getD t []))) ∧ (w.drewN n).grownBy w' (some (bk bs i))) := fun n => by
    have h := madd_c (negD p m x) gb p m Bg B (bk bs i) (cp bs i) (bk bs t) (cp bs t) md l (rows.getD i []) (rows.getD t []) (w.drewN n) hF (show GFAt (w.drewN n) Bg gb p m l (logL l (p ^ m)) from hG) (Nat.le_trans hBg hri.lt.1) (negD_lt (by have := hF.small.p1; omega) m x) hv hu hri hrt (fun e => hD.nd i t hi ht hit e.symm) hlen hl2
    rw [← hlen]
    exact h
  have HD := Lib.hid hD
  have h1 := hD.cell hi
  have h2 := hD.cell ht
  have i0 : (0 : Int) ≤ (i : Int) := by omega
  have i1 : (i : Int) < (rows.length : Int) := by omega
  have t0 : (0 : Int) ≤ (t : Int) := by omega
  have t1 : (t : Int) < (rows.length : Int) := by omega
  have HLR : Hid ((addRow (opsT p m l) (rows.getD i []) (negD p m x) (rows.getD t [])).length = (rows.getD i []).length) := addRow_len _ _ _ _ hlen
  clear hD hri hrt hF hG hv hu hlen
  generalize addRow (opsT p m l) (rows.getD i []) (negD p m x) (rows.getD t []) = ar at *
  generalize negD p m x = nx at *
  have HE : Hid ((rows.getD i []).length = (rows.getD i []).length) := rfl
  generalize hni : (rows.getD i []).length = n1 at *
  generalize hnt : (rows.getD t []).length = n2 at *
  have HNI := Lib.hid hni
  clear hni hnt HE
  go_enter Tryz.func254, Tryz.ntmps254
  refine wp_region_keep_tail 12 (SDrew w) (by kernel_rfl) (by kernel_rfl) ⟨1, rfl⟩ ?_
  simp only [List.take_succ_cons, List.take_zero, List.drop_succ_cons, List.drop_zero]
  repeat (first
    | (apply keep_val rfl
       · intro W hS
         obtain ⟨n, rfl⟩ := hS
         go_simp
         rfl
       go_simp)
    | (apply keep_call rfl
       · intro W hS
         go_simp
         exact ⟨rfl, rfl⟩
       · intro W hS
         exact HNG.out W hS
       go_simp))
  refine wpKeep_nil ?_
  intro w2 hS2
  obtain ⟨n, rfl⟩ := hS2
  clear hcg hci hcx hca h1 h2
  go_wp2_with fail
  (with_reducible refine (HAD.out n).mono ?_)
  rintro e w3 ⟨rfl, hr3, hg3⟩
  have HR3 := Lib.hid hr3
  have HG3 := Lib.hid hg3
  clear hr3 hg3
  go_wp2_with fail
  go_end0
  exact ⟨rfl, (HD.out.drewN n).turn hi (by rw [HLR.out, HNI.out]) HR3.out HG3.out, grown_trans (grown_drewN w n _) HG3.out⟩
end Go.Proofs.YthiackegnpnmbaaGreat

namespace Go.Proofs.YthiackegnpnmbaaGreat
open Go.RowKit Pln

set_option maxHeartbeats 1000000 in
set_option maxRecDepth 100000 in
theorem each2_c (p0 p1 R n cR b5 b7 g : Nat) (Q : World → Prop) (w : World) (h5 : w.cell? ⟨b5, 0, none⟩ = some (.slice (some ⟨R, 0, none⟩) n cR)) (h7 : w.cell? ⟨b7, 0, none⟩ = some (.slice none 0 0)) (hne : b7 ≠ g)
    (hs : Calls Tryz.prog 252 #[.slice (some ⟨R, 0, none⟩) n cR, .pointer (some ⟨p0, 0, none⟩), .pointer (some ⟨p1, 0, none⟩)] w fun e w' => e = .returned (.tuple #[]) ∧ Q w' ∧ w.grownBy w' (some g)) :
    Calls Tryz.prog 251 #[.func (.func 252) #[] #[.pointer (some ⟨p0, 0, none⟩), .pointer (some ⟨p1, 0, none⟩)], .pointer (some ⟨b5, 0, none⟩), .pointer (some ⟨b7, 0, none⟩)] w fun e w' => e = .returned (.tuple #[]) ∧ Q w' ∧ w.grownBy w' (some g) := by
  have HS := Lib.hid hs
  have H7 := Lib.hid h7
  have hlt : b7 < w.heap.size := World.block_lt_of_cell? w _ h7
  clear hs h7
  go_enter Tryz.func251, Tryz.ntmps251
  go_wp2_with fail
  (with_reducible refine HS.out.mono ?_)
  rintro e w1 ⟨rfl, hq, hg⟩
  have HQ := Lib.hid hq
  have HG := Lib.hid hg
  have h7 : w1.cell? ⟨b7, 0, none⟩ = some (.slice none 0 0) := (hg.cell_far ⟨b7, 0, none⟩ hlt (fun e => hne (by injection e))).trans H7.out
  clear hq hg h5
  go_wp2_with fail
  go_end0
  exact ⟨rfl, HQ.out, HG.out⟩
set_option maxHeartbeats 1000000 in
set_option maxRecDepth 100000 in
theorem each3_c (p0 p1 p2 R n cR b5 b7 g : Nat) (Q : World → Prop) (w : World) (h5 : w.cell? ⟨b5, 0, none⟩ = some (.slice (some ⟨R, 0, none⟩) n cR)) (h7 : w.cell? ⟨b7, 0, none⟩ = some (.slice none 0 0)) (hne : b7 ≠ g)
    (hs : Calls Tryz.prog 253 #[.slice (some ⟨R, 0, none⟩) n cR, .pointer (some ⟨p0, 0, none⟩), .pointer (some ⟨p1, 0, none⟩), .pointer (some ⟨p2, 0, none⟩)] w fun e w' => e = .returned (.tuple #[]) ∧ Q w' ∧ w.grownBy w' (some g)) :
    Calls Tryz.prog 251 #[.func (.func 253) #[] #[.pointer (some ⟨p0, 0, none⟩), .pointer (some ⟨p1, 0, none⟩), .pointer (some ⟨p2, 0, none⟩)], .pointer (some ⟨b5, 0, none⟩), .pointer (some ⟨b7, 0, none⟩)] w fun e w' => e = .returned (.tuple #[]) ∧ Q w' ∧ w.grownBy w' (some g) := by
  have HS := Lib.hid hs
  have H7 := Lib.hid h7
  have hlt : b7 < w.heap.size := World.block_lt_of_cell? w _ h7
  clear hs h7
  go_enter Tryz.func251, Tryz.ntmps251
  go_wp2_with fail
  (with_reducible refine HS.out.mono ?_)
  rintro e w1 ⟨rfl, hq, hg⟩
  have HQ := Lib.hid hq
  have HG := Lib.hid hg
  have h7 : w1.cell? ⟨b7, 0, none⟩ = some (.slice none 0 0) := (hg.cell_far ⟨b7, 0, none⟩ hlt (fun e => hne (by injection e))).trans H7.out
  clear hq hg h5
  go_wp2_with fail
  go_end0
  exact ⟨rfl, HQ.out, HG.out⟩
set_option maxHeartbeats 1000000 in
set_option maxRecDepth 100000 in
theorem each4_c (p0 p1 p2 p3 R n cR b5 b7 g : Nat) (Q : World → Prop) (w : World) (h5 : w.cell? ⟨b5, 0, none⟩ = some (.slice (some ⟨R, 0, none⟩) n cR)) (h7 : w.cell? ⟨b7, 0, none⟩ = some (.slice none 0 0)) (hne : b7 ≠ g)
    (hs : Calls Tryz.prog 254 #[.slice (some ⟨R, 0, none⟩) n cR, .pointer (some ⟨p0, 0, none⟩), .pointer (some ⟨p1, 0, none⟩), .pointer (some ⟨p2, 0, none⟩), .pointer (some ⟨p3, 0, none⟩)] w fun e w' => e = .returned (.tuple #[]) ∧ Q w' ∧ w.grownBy w' (some g)) :
    Calls Tryz.prog 251 #[.func (.func 254) #[] #[.pointer (some ⟨p0, 0, none⟩), .pointer (some ⟨p1, 0, none⟩), .pointer (some ⟨p2, 0, none⟩), .pointer (some ⟨p3, 0, none⟩)], .pointer (some ⟨b5, 0, none⟩), .pointer (some ⟨b7, 0, none⟩)] w fun e w' => e = .returned (.tuple #[]) ∧ Q w' ∧ w.grownBy w' (some g) := by
  have HS := Lib.hid hs
  have H7 := Lib.hid h7
  have hlt : b7 < w.heap.size := World.block_lt_of_cell? w _ h7
  clear hs h7
  go_enter Tryz.func251, Tryz.ntmps251
  go_wp2_with fail
  (with_reducible refine HS.out.mono ?_)
  rintro e w1 ⟨rfl, hq, hg⟩
  have HQ := Lib.hid hq
  have HG := Lib.hid hg
  have h7 : w1.cell? ⟨b7, 0, none⟩ = some (.slice none 0 0) := (hg.cell_far ⟨b7, 0, none⟩ hlt (fun e => hne (by injection e))).trans H7.out
  clear hq hg h5
  go_wp2_with fail
  go_end0
  exact ⟨rfl, HQ.out, HG.out⟩
end Go.Proofs.YthiackegnpnmbaaGreat

namespace Go.Proofs.YthiackegnpnmbaaGreat
open Go.RowKit Pln

/-- What stands while rows are eliminated: the grid, the field, the boxes of the field, of the rows and of the (missing) other rows. -/
structure EI (w : World) (B R cR gb Bg p m : Nat) (l : List Nat) (rows : List (List Nat)) (bs : List (Nat × Nat)) (wr : World) : Prop where
  grid : GridAt wr B R cR rows bs
  field : GFAt wr Bg gb p m l (logL l (p ^ m))
  b4 : wr.cell? ⟨w.heap.size, 0, none⟩ = some (.pointer (some ⟨gb, 0, none⟩))
  b5 : wr.cell? ⟨w.heap.size + 1, 0, none⟩ = some (.slice (some ⟨R, 0, none⟩) rows.length cR)
  b7 : wr.cell? ⟨w.heap.size + 1 + 1, 0, none⟩ = some (.slice none 0 0)
  below : Below B w wr
  size : w.heap.size + 3 ≤ wr.heap.size
  out : R < w.heap.size
  apart : ∀ i, i < rows.length → bk bs i < w.heap.size ∨ w.heap.size + 3 ≤ bk bs i
/-- The pivots so far, apart from all rows. -/
def PivAt (w : World) (base : Nat) (v : Value) (piv : List Nat) (n : Nat) (bs : List (Nat × Nat)) : Prop :=
  w.ownsRow base 3 1 v piv.length ((nz piv).map (Value.int .i64)) ∧ ∀ i, i < n → v.ownBlock ≠ some (bk bs i)
section
variable {w : World} {B R cR gb Bg p m : Nat} {l : List Nat} {rows : List (List Nat)} {bs : List (Nat × Nat)} {wr wx : World}
/-- Memory has only been made. -/
theorem EI.grow (h : EI w B R cR gb Bg p m l rows bs wr) (hB : B ≤ w.heap.size) (hBg : Bg ≤ B) (hb : Below wr.heap.size wr wx) : EI w B R cR gb Bg p m l rows bs wx := by
  have hs := h.size
  refine ⟨h.grid.grow hb, h.field.keep (hb.mono (by omega)), (hb.cell (p := ⟨w.heap.size, 0, none⟩) (by show w.heap.size < _; omega)).trans h.b4, (hb.cell (p := ⟨w.heap.size + 1, 0, none⟩) (by show w.heap.size + 1 < _; omega)).trans h.b5,
    (hb.cell (p := ⟨w.heap.size + 2, 0, none⟩) (by show w.heap.size + 2 < _; omega)).trans h.b7, h.below.trans (hb.mono (by omega)), Nat.le_trans hs hb.size, h.out, h.apart⟩
/-- A block of the call's own that is neither of the boxes nor of the grid has been written. -/
theorem EI.wrote (h : EI w B R cR gb Bg p m l rows bs wr) (hB : B ≤ w.heap.size) (hBg : Bg ≤ B) {g : Nat} (hg : w.heap.size + 3 ≤ g) (hap : ∀ i, i < rows.length → bk bs i ≠ g) (u : Value) : EI w B R cR gb Bg p m l rows bs (wr.setCell ⟨g, 0, none⟩ u) := by
  have hs := h.size
  have ho := h.out
  have hb : Below (w.heap.size + 3) wr (wr.setCell ⟨g, 0, none⟩ u) := (Below.refl _ _).setCell (p := ⟨g, 0, none⟩) hg u
  refine ⟨h.grid.else_ (p := ⟨g, 0, none⟩) (by show R ≠ g; omega) hap u, h.field.keep (hb.mono (by omega)), (hb.cell (p := ⟨w.heap.size, 0, none⟩) (by show w.heap.size < _; omega)).trans h.b4, (hb.cell (p := ⟨w.heap.size + 1, 0, none⟩) (by show w.heap.size + 1 < _; omega)).trans h.b5,
    (hb.cell (p := ⟨w.heap.size + 2, 0, none⟩) (by show w.heap.size + 2 < _; omega)).trans h.b7, h.below.trans (hb.mono (by omega)), Nat.le_trans hs (by simp), h.out, h.apart⟩
/-- The grid has been turned: another grid of as many rows, one block written or replaced. -/
theorem EI.turned (h : EI w B R cR gb Bg p m l rows bs wr) (hB : B ≤ w.heap.size) (hBg : Bg ≤ B) {rows' : List (List Nat)} {bs' : List (Nat × Nat)} {g : Nat} (hl : rows'.length = rows.length) (hd : GridAt wx B R cR rows' bs') (hg : wr.grownBy wx (some g)) (hgB : B ≤ g) (hgb : g < w.heap.size ∨ w.heap.size + 3 ≤ g)
    (hap : ∀ i, i < rows.length → bk bs' i < w.heap.size ∨ w.heap.size + 3 ≤ bk bs' i) : EI w B R cR gb Bg p m l rows' bs' wx := by
  have hs := h.size
  have hcell : ∀ k, k < 3 → wx.cell? ⟨w.heap.size + k, 0, none⟩ = wr.cell? ⟨w.heap.size + k, 0, none⟩ := fun k hk => hg.cell_far ⟨w.heap.size + k, 0, none⟩ (by show w.heap.size + k < _; omega) (fun e => by injection e with e; have e' : w.heap.size + k = g := e; omega)
  have hb : Below B wr wx := ⟨hg.os, hg.tape, hg.output, hg.size, fun k hk => hg.block k (by omega) (fun e => by injection e with e; omega)⟩
  exact ⟨hd, h.field.keep (hb.mono hBg), (hcell 0 (by omega)).trans h.b4, by rw [hl]; exact (hcell 1 (by omega)).trans h.b5, (hcell 2 (by omega)).trans h.b7, h.below.trans hb, Nat.le_trans hs hg.size, h.out, fun i hi => hap i (by omega)⟩
end
theorem PivAt.grow {w w' : World} {base n : Nat} {v : Value} {piv : List Nat} {bs : List (Nat × Nat)} (h : PivAt w base v piv n bs) (hb : Below w.heap.size w w') : PivAt w' base v piv n bs := by
  refine ⟨h.1.kept (row := none) ⟨hb.os, hb.tape, hb.output, hb.size, fun k hk _ => hb.block k hk⟩ ?_, h.2⟩
  cases hv : v.ownBlock <;> simp
theorem PivAt.grown {w w' : World} {base n g : Nat} {v : Value} {piv : List Nat} {bs bs' : List (Nat × Nat)} (h : PivAt w base v piv n bs) (hg : w.grownBy w' (some g)) (hne : v.ownBlock ≠ some g) (hb : ∀ i, i < n → v.ownBlock ≠ some (bk bs' i)) : PivAt w' base v piv n bs' :=
  ⟨h.1.kept hg (.inr hne), hb⟩

/-! ### Plain: the model's steps keep the number of rows; a full set of pivots stays -/
section
variable {O : Ops}
theorem swap_len (rows : List (List Nat)) (i j : Nat) : (swapRows rows i j).length = rows.length := by simp [swapRows]
theorem norm_len (rows : List (List Nat)) (i c : Nat) : (normRow O rows i c).length = rows.length := by unfold normRow; split <;> simp
theorem clear_len (c t : Nat) (rows : List (List Nat)) : ∀ i, (clearGo O c t rows i).length = rows.length
  | 0 => rfl
  | i + 1 => by
    unfold clearGo
    split
    · rw [List.length_set]; exact clear_len c t rows i
    · exact clear_len c t rows i
theorem elStep_len (c : Nat) (s : ElS) : (elStep O c s).rows.length = s.rows.length := by
  unfold elStep
  split
  · split
    · rfl
    · show (clearGo O c _ _ _).length = _
      rw [clear_len, norm_len, swap_len]
  · rfl
theorem elGo_len (rows : List (List Nat)) : ∀ c, (elGo O rows c).rows.length = rows.length
  | 0 => rfl
  | c + 1 => by unfold elGo; rw [elStep_len, elGo_len rows c]
theorem elGo_piv (rows : List (List Nat)) : ∀ c, (elGo O rows c).piv.length ≤ c ∧ (elGo O rows c).piv.length ≤ rows.length
  | 0 => ⟨Nat.zero_le _, Nat.zero_le _⟩
  | c + 1 => by
    have ih := elGo_piv rows c
    have hl := elGo_len (O := O) rows c
    unfold elGo elStep
    split
    · split
      · exact ⟨by omega, ih.2⟩
      · rename_i h1 h2
        show ((elGo O rows c).piv ++ [c]).length ≤ _ ∧ ((elGo O rows c).piv ++ [c]).length ≤ _
        rw [List.length_append, List.length_singleton]
        omega
    · exact ⟨by omega, ih.2⟩
theorem elGo_full (rows : List (List Nat)) {c : Nat} (h : (elGo O rows c).piv.length = rows.length) : ∀ k, elGo O rows (c + k) = elGo O rows c
  | 0 => rfl
  | k + 1 => by
    have ih := elGo_full rows h k
    show elStep O (c + k) (elGo O rows (c + k)) = _
    rw [ih]
    unfold elStep
    rw [if_neg (by rw [h, elGo_len]; omega)]
end
theorem opsT_self {p m : Nat} {md l : List Nat} (h : FT p m md l) : OpsEq (p ^ m) (opsT p m l) (opsT p m l) where
  add x y _ _ := ⟨rfl, addD_lt (by have := h.small.p1; omega) m x y⟩
  mul x y hx hy := ⟨rfl, mulT_lt h hx hy⟩
  neg x _ := ⟨rfl, negD_lt (by have := h.small.p1; omega) m x⟩
  inv x hx h0 := ⟨rfl, (h.tab.inv (mulM_mon (by have := h.small.p1; omega) h.small.m1 md) h0 hx).2.1⟩
end Go.Proofs.YthiackegnpnmbaaGreat

