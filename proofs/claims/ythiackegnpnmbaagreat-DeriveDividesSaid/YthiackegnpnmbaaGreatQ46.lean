/-
  code.Dual at the code of 000 and 111. slices.ContainsFunc where no row is the column. derive.columns at the code of 000 and 111. modify.set of one position; modify.rest.
-/
import Derived.Test.YthiackegnpnmbaaGreatQ42
import Derived.Test.YthiackegnpnmbaaGreatQ45
import Derived.Test.YthiackegnpnmbaaGreatQ16
namespace Go.Proofs.YthiackegnpnmbaaGreat
open Go.RowKit Pln

theorem ker_T : kerM (opsT 2 1 lT) [[1, 1, 1]] 3 = [[1, 0, 1], [0, 1, 1]] := by kernel_rfl
theorem err_T : errC 2 1 [] 3 [[1, 1, 1]] = 0 := by kernel_rfl
def LSk (a w : World) : Prop := Below a.heap.size a w
def RelDu (w1 : World) (v5 v6 : Value) (wx : World) : Prop :=
  ∃ (b : Nat) (A' : Option Addr) (c' : Nat), v5 = .pointer (some ⟨b, 0, none⟩) ∧ v6 = .int .i64 0 ∧ wx.heap[b]? = some (.cells [.int .i64 3, .slice A' 2 c'].toArray 53 (0, 0)) ∧ RowsUp wx w1.heap.size A' [[1, 0, 1], [0, 1, 1]] ∧ Below w1.heap.size w1 wx
def DualRep (w : World) (e : Ending) (w' : World) : Prop :=
  (∃ (A' : Option Addr) (c' : Nat), e = .returned (.tuple #[.agg #[.int .i64 2, .int .i64 1, .slice none 0 0, .int .i64 3, .slice A' 2 c'], .int .i64 0]) ∧ RowsUp w' w.heap.size A' [[1, 0, 1], [0, 1, 1]]) ∧ Below w.heap.size w w'
set_option maxHeartbeats 4000000 in
set_option maxRecDepth 100000 in
theorem dual_rep (G : Nat) (w : World) (hG : RowsAt w w.heap.size (some ⟨G, 0, none⟩) [[1, 1, 1]]) :
    Calls Tryz.prog 98 #[.agg #[.int .i64 2, .int .i64 1, .slice none 0 0, .int .i64 3, .slice (some ⟨G, 0, none⟩) 1 1]] w (DualRep w) := by
  have HX := Lib.hid (b2_new w [.int .i64 2, .int .i64 1, .slice none 0 0, .int .i64 3, .slice (some ⟨G, 0, none⟩) 1 1] 30 [.int .i64 0, .int .i64 0, .slice none 0 0, .int .i64 0, .slice none 0 0] 30)
  have HG := Lib.hid hG
  clear hG
  go_enter Tryz.func98, Tryz.ntmps98
  go_upto_region 1 with fail
  generalize (w.alloc (.cells #[.int .i64 2, .int .i64 1, .slice none 0 0, .int .i64 3, .slice (some ⟨G, 0, none⟩) 1 1] 30)).alloc (.cells #[.int .i64 0, .int .i64 0, .slice none 0 0, .int .i64 0, .slice none 0 0] 30) = W0 at *
  have HRG := Lib.hid HX.out.range
  have HCK : Hid (Calls Tryz.prog 27 #[.agg #[.int .i64 2, .int .i64 1, .slice none 0 0, .int .i64 3, .slice (some ⟨G, 0, none⟩) 1 1]] W0 fun e w' => e = .returned (.int .i64 (codeZ 2 1 [] 3 [[1, 1, 1]])) ∧ Below W0.heap.size W0 w') := (codecheck_c 2 1 [] none 0 3 [[1, 1, 1]] (some ⟨G, 0, none⟩) 1 W0 (fun h => absurd h (by simp)) (by simp) ((HG.out.keep HX.out.below).more HX.out.below.size) (by simp))
  rw [codeZ_rep] at HCK
  go_wp2_with (refine wpList_load_mid rfl 30 (.tmp 1) rfl w.heap.size 0 rfl [.int .i64 2, .int .i64 1, .slice none 0 0, .int .i64 3, .slice (some ⟨G, 0, none⟩) 1 1] _ HRG.out Tryz.underlying30 rfl codeSize ?_)
  (with_reducible refine HCK.out.mono ?_)
  rintro e w1 ⟨rfl, hb1⟩
  have HX1 := Lib.hid (HX.out.grow hb1)
  clear hb1 HCK HX HRG
  clear W0
  have HRC : Hid (∀ W, LSk w1 W → W.rangeAt w.heap.size 0 [.int .i64 2, .int .i64 1, .slice none 0 0, .int .i64 3, .slice (some ⟨G, 0, none⟩) 1 1]) := fun W hW => (HX1.out.grow hW).range
  have HRF : Hid (∀ W, LSk w1 W → W.rangeAt w.heap.size 0 [.int .i64 2, .int .i64 1, .slice none 0 0]) := fun W hW => (HX1.out.grow hW).field
  have HS0 : Hid (LSk w1 w1.drew) := (Below.refl _ _).drew
  have HKER : Hid (∀ W, LSk w1 W → Calls Tryz.prog 156 #[.agg #[.int .i64 2, .int .i64 1, .slice none 0 0], .agg #[.int .i64 3, .slice (some ⟨G, 0, none⟩) 1 1]] W fun e w' => (∃ (A' : Option Addr) (c' : Nat), e = .returned (.tuple #[.agg #[.int .i64 3, .slice A' 2 c'], .int .i64 0]) ∧ RowsUp w' W.heap.size A' [[1, 0, 1], [0, 1, 1]]) ∧ Below W.heap.size W w') := fun W hW => by
    have h := kernel_c 2 1 [] none 0 3 [[1, 1, 1]] (some ⟨G, 0, none⟩) 1 W (fun h => absurd h (by simp)) (by simp) ((((HG.out.keep HX1.out.below).more HX1.out.below.size).keep hW).more (Below.size hW)) (by omega) err_T
    have e : kerM (opsT (2 : Int).toNat (1 : Int).toNat (lOf 2 1 [])) [[1, 1, 1]] 3 = [[1, 0, 1], [0, 1, 1]] := ker_T
    rw [e] at h
    exact h
  go_upto_region 4 with fail
  go_cut [5, 6] (fun v5 v6 wx => RelDu w1 v5 v6 wx)
  case first =>
    refine wp_region_mixx 10 9 8 (LSk w1) [(1, 0), (0, 1), (0, 2), (2, 3), (2, 4), (1, 5), (1, 6), (1, 7)] [(3, 9)] default _ (.cells #[.int .i64 0, .slice none 0 0] 53) (by kernel_rfl) (by kernel_rfl) (fun _ _ d _ _ h => by cases d <;> exact h) rfl rfl ?_ (fun W hW => Below.alloc hW (Below.size hW) _) HS0.out ?_
    · intro a w
      unfold ptrTo
      go_simp
    simp only [List.map_cons, List.map_nil, List.getD_cons_zero, List.getD_cons_succ]
    apply x_free rfl
    · intro W
      go_simp
      rfl
    go_simp
    refine x_load_mid rfl 27 (.tmp 14) rfl w.heap.size 0 rfl [.int .i64 2, .int .i64 1, .slice none 0 0] _ HRF.out Tryz.underlying27 rfl fieldSize ?_
    go_simp
    refine x_load_mid rfl 30 (.tmp 1) rfl w.heap.size 0 rfl [.int .i64 2, .int .i64 1, .slice none 0 0, .int .i64 3, .slice (some ⟨G, 0, none⟩) 1 1] _ HRC.out Tryz.underlying30 rfl codeSize ?_
    go_simp
    apply x_call rfl
    · intro W
      go_simp
      exact ⟨rfl, rfl⟩
    intro W1 hW1 hS1
    with_reducible refine (gen_c 2 1 none 0 0 3 (some ⟨G, 0, none⟩) 1 1 W1).mono ?_
    rintro e w2 ⟨rfl, hb2⟩
    refine ⟨_, rfl, Below.trans hS1 (hb2.mono (Below.size hS1)), hb2, ?_⟩
    go_simp
    apply x_call rfl
    · intro W
      go_simp
      exact ⟨rfl, rfl⟩
    intro W3 hW3 hS3
    have HK3 := Lib.hid (HKER.out W3 hS3)
    with_reducible refine HK3.out.mono ?_
    rintro e w4 ⟨⟨A', c', rfl, hr4⟩, hb4⟩
    refine ⟨_, rfl, Below.trans hS3 (hb4.mono (Below.size hS3)), hb4, ?_⟩
    go_simp
    iterate 3
      apply x_free rfl
      · intro W
        go_simp
        rfl
      go_simp
    refine x_nil ?_
    intro W7 b hW7 hS7 hlo hF hbx
    have hs3 : w1.heap.size ≤ W3.heap.size := Below.size hS3
    have hF' : ¬ (W3.heap.size ≤ b ∧ b < w4.heap.size) := fun h => hF (.inr h)
    have HRW : Hid (RowsUp (W7.setRow b #[.int .i64 3, .slice A' 2 c']) w1.heap.size A' [[1, 0, 1], [0, 1, 1]]) :=
      (hr4.of_blocks (by simpa using hW7.size) (fun k hk1 hk2 => by rw [setRow_other _ _ _ _ (by omega), hW7.block k hk2])).lower hs3
    have HKB : Hid ((W7.setRow b #[.int .i64 3, .slice A' 2 c']).heap[b]? = some (.cells [.int .i64 3, .slice A' 2 c'].toArray 53 (0, 0))) := setRow_same _ _ _ _ _ hbx
    have HB7 : Hid (Below w1.heap.size w1 (W7.setRow b #[.int .i64 3, .slice A' 2 c'])) := below_setRow hS7 hlo _
    unfold ptrTo
    refine mixf_store_row rfl 53 (.tmp 5) (.tmp 19) rfl b 53 #[.int .i64 0, .slice none 0 0] #[.int .i64 3, .slice A' 2 c'] rfl rfl hbx matSize rfl (by simp [Value.oneCell']) ?_
    go_simp
    refine mixf_nil ?_
    show wpList _ _ _ _ _ _
    clear hr4 hb4 hW7 hS7 hlo hF hbx hF' HK3
    go_wp2_with fail
    go_meet
    exact ⟨b, A', c', rfl, rfl, HKB.out, HRW.out, HB7.out⟩
  case rest =>
    obtain ⟨b, A', c', rfl, rfl, hk, hr, hb⟩ := hcut
    have HXc := Lib.hid (HX1.out.grow hb)
    have HRR := Lib.hid hr
    have HRG := Lib.hid HXc.out.field
    have HRM : Hid (wc.rangeAt b 0 [.int .i64 3, .slice A' 2 c']) := range_of_row hk
    have hs1 : w.heap.size ≤ w1.heap.size := HX1.out.below.size
    have hs2 : w.heap.size + 1 < w1.heap.size := HX1.out.2.2.2
    clear hk hr hb HX1 HRC HRF HS0 HKER
    go_wp2_with (first
      | (refine wpList_load_mid rfl 27 (.tmp 21) rfl w.heap.size 0 rfl [.int .i64 2, .int .i64 1, .slice none 0 0] _ HRG.out Tryz.underlying27 rfl fieldSize ?_)
      | (refine wpList_load_mid rfl 53 (.tmp 5) rfl b 0 rfl [.int .i64 3, .slice A' 2 c'] _ HRM.out Tryz.underlying53 rfl matSize ?_))
    (with_reducible refine (of_nil 2 1 3 A' 2 c' wc).mono ?_)
    rintro e w2 ⟨rfl, hb2⟩
    have HX2 := Lib.hid (HXc.out.grow hb2)
    have HR2 := Lib.hid (HRR.out.grow hb2)
    have HK := Lib.hid HX2.out.2.1
    have HY := Lib.hid (HX2.out.set [.int .i64 2, .int .i64 1, .slice none 0 0, .int .i64 3, .slice A' 2 c'])
    clear hb2 HXc HRR HRG HRM
    go_wp2_with (refine wpList_store_row rfl 30 (.tmp 2) (.tmp 26) rfl w2 (w.heap.size + 1) 30 #[.int .i64 0, .int .i64 0, .slice none 0 0, .int .i64 0, .slice none 0 0] #[.int .i64 2, .int .i64 1, .slice none 0 0, .int .i64 3, .slice A' 2 c'] rfl rfl HK.out codeSize rfl (by simp [Value.oneCell']) ?_)
    refine bodyPost_ret (results_row_one (P := Tryz.prog) rfl _ _ (w.heap.size + 1) 30 #[.int .i64 2, .int .i64 1, .slice none 0 0, .int .i64 3, .slice A' 2 c'] (0, 0) _ _ rfl rfl HY.out.2.1 Tryz.underlying30 rfl codeSize) rfl ?_
    have hv : RowsUp (w2.setRow (w.heap.size + 1) #[.int .i64 2, .int .i64 1, .slice none 0 0, .int .i64 3, .slice A' 2 c']) w1.heap.size A' [[1, 0, 1], [0, 1, 1]] := HR2.out.of_blocks (by simp) fun k hk _ => setRow_other w2 (w.heap.size + 1) k _ (by omega)
    exact ⟨⟨A', c', rfl, hv.lower hs1⟩, HY.out.below⟩
end Go.Proofs.YthiackegnpnmbaaGreat

namespace Go.Proofs.YthiackegnpnmbaaGreat
open Go.RowKit Pln

set_option maxHeartbeats 1000000 in
set_option maxRecDepth 100000 in
theorem columns2_c (o col : List Int) (Ao Ac : Option Addr) (co cc bc : Nat) (W : World) (ho : IntsAt W W.heap.size Ao o) (hc : W.cell? ⟨bc, 0, none⟩ = some (.slice Ac col.length cc)) (hi : IntsAt W W.heap.size Ac col) (hl : o.length ≤ 1000) (hne : o ≠ col) :
    Calls Tryz.prog 103 #[.slice Ao o.length co, .pointer (some ⟨bc, 0, none⟩)] W (Quiet (.bool false) W) := by
  have HC := Lib.hid (sequal_c o col Ao Ac co cc W ho hi (by omega))
  rw [decide_eq_false hne] at HC
  clear ho hi
  go_enter Tryz.func103, Tryz.ntmps103
  go_wp2_with fail
  refine HC.out.mono ?_
  rintro e w' ⟨rfl, n, rfl⟩
  go_wp2_with fail
  go_ret
  exact ⟨rfl, n, rfl⟩
def RelFar (w : World) (n : Nat) (v8 : Value) (wr : World) : Prop := ∃ k m : Nat, k ≤ n ∧ v8 = .int .i64 k ∧ wr = w.drewN m
set_option maxHeartbeats 2000000 in
set_option maxRecDepth 100000 in
theorem indexfar_c (R : List (List Int)) (col : List Int) (A Ac : Option Addr) (c cc bc : Nat) (w : World) (hA : RowsAt w w.heap.size A R) (hc : w.cell? ⟨bc, 0, none⟩ = some (.slice Ac col.length cc)) (hi : IntsAt w w.heap.size Ac col) (hl : R.length ≤ 1000) (hr : ∀ o ∈ R, o.length ≤ 1000 ∧ o ≠ col) :
    Calls Tryz.prog 159 #[.slice A R.length c, .func (.func 103) #[] #[.pointer (some ⟨bc, 0, none⟩)]] w (Quiet (.int .i64 (-1)) w) := by
  have HA := Lib.hid hA
  have HF : Hid (∀ (m k : Nat) (Ao : Option Addr) (co : Nat), k < R.length → IntsAt w w.heap.size Ao (R.getD k []) → Calls Tryz.prog 103 #[.slice Ao (R.getD k []).length co, .pointer (some ⟨bc, 0, none⟩)] (w.drewN m) (Quiet (.bool false) (w.drewN m))) := fun m k Ao co hk ho => by
    have hm : R.getD k [] ∈ R := by
      have : R.getD k [] = R[k] := by simp [List.getD, hk]
      rw [this]
      exact List.getElem_mem hk
    obtain ⟨h1, h2⟩ := hr _ hm
    exact columns2_c (R.getD k []) col Ao Ac co cc bc (w.drewN m) (ho.keep (below_drewN (Below.refl _ _) m)) hc (hi.keep (below_drewN (Below.refl _ _) m)) h1 h2
  clear hA hc hi hr
  go_enter Tryz.func159, Tryz.ntmps159
  go_wp2_with fail
  go_loopw [8] (fun v8 wr => RelFar w R.length v8 wr) (fun v8 _ => R.length - (intOf v8).toNat)
  case atStart => exact ⟨0, 0, by omega, rfl, rfl⟩
  case round =>
    obtain ⟨k, m, hk, rfl, rfl⟩ := hrel
    by_cases hlt : k < R.length
    · obtain ⟨b, o, Ai, ci, rfl, hb, hcr, hir⟩ := HA.out.at_ (i := k) hlt
      have y0 : (w.drewN m).cell? ⟨b, o + k, none⟩ = some (.slice Ai (R.getD k []).length ci) := hcr
      have HC := Lib.hid (HF.out m k Ai ci hlt hir)
      have k0 : (0 : Int) ≤ (k : Int) := by omega
      have k1 : (k : Int) < (R.length : Int) := by omega
      have hw1 : IntKind.i64.wrap ((k : Int) + 1) = (k : Int) + 1 := IntWalk.i64_in _ (by omega)
      clear hcr hir
      generalize R.getD k [] = r at *
      go_wp2_with fail
      refine HC.out.mono ?_
      rintro e w' ⟨rfl, n, rfl⟩
      go_wp2_with fail
      go_roundw
      case rel => exact ⟨k + 1, m + n, by omega, by go_num, by first | rfl | rw [World.drewN_drewN]⟩
      case measure => simp [intOf]; omega
    · obtain rfl : k = R.length := by omega
      go_wp2_with fail
      go_ret
      exact ⟨rfl, m, rfl⟩
set_option maxHeartbeats 1000000 in
set_option maxRecDepth 100000 in
theorem containsfar_c (R : List (List Int)) (col : List Int) (A Ac : Option Addr) (c cc bc : Nat) (w : World) (hA : RowsAt w w.heap.size A R) (hc : w.cell? ⟨bc, 0, none⟩ = some (.slice Ac col.length cc)) (hi : IntsAt w w.heap.size Ac col) (hl : R.length ≤ 1000) (hr : ∀ o ∈ R, o.length ≤ 1000 ∧ o ≠ col) :
    Calls Tryz.prog 102 #[.slice A R.length c, .func (.func 103) #[] #[.pointer (some ⟨bc, 0, none⟩)]] w (Quiet (.bool false) w) := by
  have HC := Lib.hid (indexfar_c R col A Ac c cc bc w hA hc hi hl hr)
  clear hA hi hr
  go_enter Tryz.func102, Tryz.ntmps102
  go_wp2_with fail
  refine HC.out.mono ?_
  rintro e w' ⟨rfl, n, rfl⟩
  go_wp2_with fail
  go_ret
  exact ⟨rfl, n, rfl⟩
end Go.Proofs.YthiackegnpnmbaaGreat

namespace Go.Proofs.YthiackegnpnmbaaGreat
open Go.RowKit Pln

/-- The columns of the parity-check matrix. -/
def colT (j : Nat) : List Nat := [[1, 0], [0, 1], [1, 1]].getD j []
def rowT (k : Nat) : List Nat := [[1, 0, 1], [0, 1, 1]].getD k []
def colsT : List (List Nat) := [[1, 0], [0, 1], [1, 1]]
theorem colT_len {j : Nat} (h : j < 3) : (colT j).length = 2 := by
  match j, h with
  | 0, _ => rfl
  | 1, _ => rfl
  | 2, _ => rfl
theorem colT_lt {j : Nat} (h : j < 3) : ∀ x ∈ colT j, x < 2 := by
  match j, h with
  | 0, _ => decide
  | 1, _ => decide
  | 2, _ => decide
theorem colT_ix {j : Nat} (h : j < 3) : ∃ p : Nat, nzIx (colT j) 0 = (p : Int) ∧ p < 2 ∧ (colT j).getD p 0 = 1 := by
  match j, h with
  | 0, _ => exact ⟨0, rfl, by omega, rfl⟩
  | 1, _ => exact ⟨1, rfl, by omega, rfl⟩
  | 2, _ => exact ⟨0, rfl, by omega, rfl⟩
theorem inv_T : invT lT (logL lT (2 ^ 1)) (2 ^ 1) 1 = 1 := by kernel_rfl
theorem mul_T0 : mulT lT (logL lT (2 ^ 1)) (2 ^ 1) 1 0 = 0 := by kernel_rfl
theorem scale_T {j : Nat} (h : j < 3) : scaleRow (opsT 2 1 lT) 1 (colT j) = colT j := by
  have h0 : (opsT 2 1 lT).mul 1 0 = 0 := mul_T0
  have h1 : (opsT 2 1 lT).mul 1 1 = 1 := mul_T
  unfold scaleRow
  match j, h with
  | 0, _ => show [(opsT 2 1 lT).mul 1 1, (opsT 2 1 lT).mul 1 0] = [1, 0]; rw [h0, h1]
  | 1, _ => show [(opsT 2 1 lT).mul 1 0, (opsT 2 1 lT).mul 1 1] = [0, 1]; rw [h0, h1]
  | 2, _ => show [(opsT 2 1 lT).mul 1 1, (opsT 2 1 lT).mul 1 1] = [1, 1]; rw [h1]
theorem col_step {j k : Nat} (hj : j < 3) (hk : k < 2) : (colT j).take (k + 1) = (colT j).take k ++ [(rowT k).getD j 0] := by
  match j, hj, k, hk with
  | 0, _, 0, _ => rfl
  | 0, _, 1, _ => rfl
  | 1, _, 0, _ => rfl
  | 1, _, 1, _ => rfl
  | 2, _, 0, _ => rfl
  | 2, _, 1, _ => rfl
theorem cols_far {j : Nat} (h : j < 3) : ∀ o ∈ nzs (colsT.take j), o.length ≤ 1000 ∧ o ≠ nz (colT j) := by
  match j, h with
  | 0, _ => intro o ho; exact absurd ho (by simp [nzs])
  | 1, _ => decide
  | 2, _ => decide
theorem rowI {k : Nat} (h : k < 2) : ([[1, 0, 1], [0, 1, 1]] : List (List Int)).getD k [] = nz (rowT k) ∧ (rowT k).length = 3 := by
  match k, h with
  | 0, _ => exact ⟨rfl, rfl⟩
  | 1, _ => exact ⟨rfl, rfl⟩
theorem colT_all {j : Nat} (h : j < 3) : (colT j).take 2 = colT j := by
  match j, h with
  | 0, _ => rfl
  | 1, _ => rfl
  | 2, _ => rfl
theorem cols_snoc {j : Nat} (h : j < 3) : colsT.take (j + 1) = colsT.take j ++ [colT j] ∧ (colsT.take j).length = j := by
  match j, h with
  | 0, _ => exact ⟨rfl, rfl⟩
  | 1, _ => exact ⟨rfl, rfl⟩
  | 2, _ => exact ⟨rfl, rfl⟩
end Go.Proofs.YthiackegnpnmbaaGreat

namespace Go.Proofs.YthiackegnpnmbaaGreat
open Go.RowKit Pln

/-- A list of numbers under way. -/
def Num (w : World) (B : Nat) (v : Value) (l : List Nat) : Prop := w.ownsRow B 3 1 v l.length ((nz l).map (Value.int .i64))
section
variable {w w' : World} {B : Nat} {v : Value} {l : List Nat}
theorem Num.nil (w : World) (B : Nat) : Num w B (.slice none 0 0) [] := World.ownsRow_nil _ _ _ _
theorem Num.grow (h : Num w B v l) (hb : Below w.heap.size w w') : Num w' B v l :=
  World.ownsRow.kept h (row := none) ⟨hb.os, hb.tape, hb.output, hb.size, fun j hj _ => hb.block j hj⟩ (by cases v.ownBlock <;> simp)
theorem Num.slice (h : Num w B v l) : ∃ VA ck, v = .slice VA l.length ck := own_slice h
theorem Num.up {VA : Option Addr} {ck : Nat} (h : Num w B (.slice VA l.length ck) l) : IntsUp w B VA (nz l) := ints_of_own h rfl
theorem Num.step {w2 : World} {v' : Value} {x : Nat} (h : w2.ownsRow B 3 1 v' (l.length + 1) ((nz l).map (Value.int .i64) ++ [.int .i64 (x : Int)])) : Num w2 B v' (l ++ [x]) := by
  unfold Num
  rw [List.length_append, nz, List.map_append, List.map_append]
  exact h
end
def RelRest (w : World) (set : List Nat) (n : Nat) (v5 v8 : Value) (wr : World) : Prop := ∃ c : Nat, c ≤ n ∧ v8 = .int .i64 c ∧ Num wr w.heap.size v5 (freeC set c) ∧ Below w.heap.size w wr

end Go.Proofs.YthiackegnpnmbaaGreat

