/-
  derive.columns at the code of 000 and 111: no column is zero, no two are alike. The reference: Parity, Dual.
-/
import Derived.Test.YthiackegnpnmbaaGreatQ46
import Derived.Test.YthiackegnpnmbaaGreatQ45
namespace Go.Proofs.YthiackegnpnmbaaGreat
open Go.RowKit Pln

theorem app_int {W : World} {B : Nat} {v : Value} {l : List Nat} (x nb : Nat) (h : Num W B v l) (hB : B ≤ W.heap.size) (hl : l.length ≤ 1000) (hn : W.heap[nb]? = some (.cells #[.int .i64 (x : Int)] 3 (0, 0))) :
    ∃ (v' : Value) (w' : World), (Builtin.append_ #[23, 23] 23 #[v, .slice (some ⟨nb, 0, none⟩) 1 1]).run Tryz.prog W = .ok v' w' ∧ Num w' B v' (l ++ [x]) ∧ W.grownBy w' v.ownBlock := by
  obtain ⟨i0, hi, hz0, hz1, hz2⟩ := info_parts infoInt
  have hr0 : W.rangeAt nb 0 [.int .i64 (x : Int)] := range_of_row hn
  obtain ⟨v', w', hrun, hown, hg, _, _⟩ := run_append_own_at (P := Tryz.prog) (w := W) B 23 23 3 i0 _ 1 8 Tryz.underlying23 hi hz0 hz1 hz2 rfl (by decide) v l.length _ h ⟨nb, 0, none⟩ 1 1 [.int .i64 (x : Int)] rfl (fun j u hj => by rw [Addr.add_mid]; exact hr0 j u hj) (by intro u hu; simp at hu; subst hu; rfl) (by unfold maxLen; omega) (by omega) hB
  exact ⟨v', w', hrun, Num.step hown, hg⟩
def RelCk (wa : World) (bc j : Nat) (v36 : Value) (wr : World) : Prop :=
  ∃ (k : Nat) (v : Value), k ≤ 2 ∧ v36 = .int .i64 k ∧ Num wr wa.heap.size v ((colT j).take k) ∧ wr.heap[bc]? = some (.cells [v].toArray 23 (0, 0)) ∧ Below bc wa wr ∧ wa.heap.size ≤ wr.heap.size
def RelCj (w2 : World) (v9 v30 : Value) (wr : World) : Prop :=
  ∃ (j : Nat) (bs : List (Nat × Nat)), j ≤ 3 ∧ v30 = .int .i64 j ∧ LGrid wr w2.heap.size v9 (colsT.take j) bs (colsT.take j).length ∧ Below w2.heap.size w2 wr
def CkS (bc : Nat) (v : Value) (br o x : Nat) (W : World) : Prop := W.heap[bc]? = some (.cells [v].toArray 23 (0, 0)) ∧ W.cell? ⟨br, o, none⟩ = some (.int .i64 (x : Int))
set_option maxHeartbeats 8000000 in
set_option maxRecDepth 100000 in
theorem columns_rep (G : Nat) (w : World) (hG : RowsAt w w.heap.size (some ⟨G, 0, none⟩) [[1, 1, 1]]) :
    Calls Tryz.prog 50 #[.agg #[.int .i64 2, .int .i64 1, .slice none 0 0, .int .i64 3, .slice (some ⟨G, 0, none⟩) 1 1], .int .i64 3] w (BPost true w) := by
  have HX := Lib.hid (bx_new w [.int .i64 2, .int .i64 1, .slice none 0 0, .int .i64 3, .slice (some ⟨G, 0, none⟩) 1 1] 30)
  have HG := Lib.hid hG
  clear hG
  go_enter Tryz.func50, Tryz.ntmps50
  go_upto_region 1 with fail
  generalize w.alloc (.cells #[.int .i64 2, .int .i64 1, .slice none 0 0, .int .i64 3, .slice (some ⟨G, 0, none⟩) 1 1] 30) = W0 at *
  have HRG := Lib.hid HX.out.range
  have HD := Lib.hid (dual_rep G W0 ((HG.out.keep HX.out.below).more HX.out.below.size))
  go_wp2_with (refine wpList_load_mid rfl 30 (.tmp 2) rfl w.heap.size 0 rfl [.int .i64 2, .int .i64 1, .slice none 0 0, .int .i64 3, .slice (some ⟨G, 0, none⟩) 1 1] _ HRG.out Tryz.underlying30 rfl codeSize ?_)
  (with_reducible refine HD.out.mono ?_)
  rintro e w1 ⟨⟨A', c', rfl, hr⟩, hb1⟩
  have HX1 := Lib.hid (HX.out.grow hb1)
  have HR1 := Lib.hid (hr.lower HX.out.below.size)
  have hs1 : w.heap.size < w1.heap.size := Nat.lt_of_lt_of_le HX.out.2.2 hb1.size
  clear hb1 hr HD HX HRG HG
  clear W0
  go_upto_region 2 with (refine wpList_store_new rfl 30 (.tmp 5) (.tmp 20) rfl w1 _ #[.int .i64 2, .int .i64 1, .slice none 0 0, .int .i64 3, .slice A' 2 c'] rfl rfl codeSize rfl (by simp [Value.oneCell']) ?_)
  have hba : Below w1.heap.size w1 (w1.alloc (.cells #[.int .i64 2, .int .i64 1, .slice none 0 0, .int .i64 3, .slice A' 2 c'] 30)) := (Below.refl _ _).alloc (Nat.le_refl _) _
  have HX2 := Lib.hid (HX1.out.grow hba)
  have HR2 := Lib.hid (HR1.out.grow hba)
  have HK2 : Hid ((w1.alloc (.cells #[.int .i64 2, .int .i64 1, .slice none 0 0, .int .i64 3, .slice A' 2 c'] 30)).heap[w1.heap.size]? = some (.cells #[.int .i64 2, .int .i64 1, .slice none 0 0, .int .i64 3, .slice A' 2 c'] 30 (0, 0))) := heap_alloc_new _ _
  have hs2 : w1.heap.size < (w1.alloc (.cells #[.int .i64 2, .int .i64 1, .slice none 0 0, .int .i64 3, .slice A' 2 c'] 30)).heap.size := by simp
  clear hba HX1 HR1
  generalize w1.alloc (.cells #[.int .i64 2, .int .i64 1, .slice none 0 0, .int .i64 3, .slice A' 2 c'] 30) = W2 at *
  generalize w1.heap.size = Bd at *
  clear w1
  have HRG := Lib.hid HX2.out.field
  have HN : Hid (Calls Tryz.prog 72 #[.agg #[.int .i64 2, .int .i64 1, .slice none 0 0]] W2 fun e w' => (∃ gb, e = .returned (.tuple #[.pointer (some ⟨gb, 0, none⟩), .int .i64 0]) ∧ GFUp w' W2.heap.size gb 2 1 lT (logL lT (2 ^ 1))) ∧ Below W2.heap.size W2 w') := (fnew_up 2 1 [] none 0 W2 (fun h => absurd h (by simp)) (by kernel_rfl))
  go_wp2_with (refine wpList_load_mid rfl 27 (.tmp 23) rfl w.heap.size 0 rfl [.int .i64 2, .int .i64 1, .slice none 0 0] _ HRG.out Tryz.underlying27 rfl fieldSize ?_)
  (with_reducible refine HN.out.mono ?_)
  rintro e w3 ⟨⟨gb, rfl, hg⟩, hb3⟩
  have HX3 := Lib.hid (HX2.out.grow hb3)
  have HR3 := Lib.hid (HR2.out.grow hb3)
  have HK3 := Lib.hid ((hb3.block Bd hs2).trans HK2.out)
  have hs3 : Bd < w3.heap.size := Nat.lt_of_lt_of_le hs2 hb3.size
  have HGF := Lib.hid hg.at_
  clear hb3 hg HX2 HR2 HK2 HN HRG hs2
  clear W2
  have y3 : w3.cell? ⟨w.heap.size, 3, none⟩ = some (.int .i64 3) := HX3.out.cell rfl
  go_wp2_with fail
  have HJ0 : Hid (RelCj w3 (.slice none 0 0) (.int .i64 ((0 : Nat) : Int)) w3) := ⟨0, [], by omega, rfl, ⟨rfl, Nat.zero_le _, World.ownsRow_nil _ _ _ _, fun i hi => by simp at hi, fun i hi => by simp at hi⟩, Below.refl _ _⟩
  go_loopw [9, 30] (fun v9 v30 wr => RelCj w3 v9 v30 wr) (fun _ v30 _ => 3 - (intOf v30).toNat)
  case atStart => exact HJ0.out
  case round =>
    obtain ⟨j, bs, hj, rfl, hlg, hb⟩ := hrel
    have HLG := Lib.hid hlg
    have HB := Lib.hid hb
    clear hlg hb HJ0 y3
    by_cases hlt : j < 3
    · have j0 : (0 : Int) ≤ (j : Int) := by omega
      have j1 : (j : Int) < 3 := by omega
      have hwj : IntKind.i64.wrap ((j : Int) + 1) = (j : Int) + 1 := IntWalk.i64_in _ (by omega)
      obtain ⟨hsn, hsl⟩ := cols_snoc hlt
      have HSN := Lib.hid hsn
      have HFAR := Lib.hid (cols_far hlt)
      obtain ⟨VO, co, e9, _⟩ := own_slice' HLG.out.out
      rw [hsl] at e9
      subst e9
      clear hsn
      obtain ⟨i00, hi', hz0', hz1', hz2'⟩ := info_parts infoInts
      have HI' := Lib.hid hi'
      have HZ0' := Lib.hid hz0'
      have HZ1' := Lib.hid hz1'
      have HZ2' := Lib.hid hz2'
      clear hi' hz0' hz1' hz2'
      generalize colsT.take j = R at HLG HSN HFAR hsl
      have HSL := Lib.hid hsl
      clear hsl
      go_upto_region 8 with fail
      have hba : Below wr.heap.size wr (wr.alloc (.cells #[.slice none 0 0] 23)) := (Below.refl _ _).alloc (Nat.le_refl _) _
      have HKa : Hid ((wr.alloc (.cells #[.slice none 0 0] 23)).heap[wr.heap.size]? = some (.cells [.slice none 0 0].toArray 23 (0, 0))) := heap_alloc_new _ _
      have hsa : wr.heap.size < (wr.alloc (.cells #[.slice none 0 0] 23)).heap.size := by simp
      have HBO : Hid (∀ W, Below wr.heap.size (wr.alloc (.cells #[.slice none 0 0] 23)) W → Below wr.heap.size wr W) := fun W hW => hba.trans hW
      have HLO := Lib.hid HLG.out
      have hbc : w3.heap.size ≤ wr.heap.size := HB.out.size
      have HBa := Lib.hid (HB.out.trans (hba.mono hbc))
      clear hba HLG HB
      generalize wr.alloc (.cells #[.slice none 0 0] 23) = wa at *
      generalize hbce : wr.heap.size = bc at HKa hsa hbc HBO ⊢
      have HSO := Lib.hid hbce
      clear hbce
      have y4 : wa.cell? ⟨Bd, 4, none⟩ = some (.slice A' 2 c') := (HBa.out.cell (p := ⟨Bd, 4, none⟩) hs3).trans (cell_of_row _ _ 4 _ _ _ HK3.out)
      have HRw : Hid (RowsAt wa w3.heap.size A' [[1, 0, 1], [0, 1, 1]]) := HR3.out.rowsAt.keep HBa.out
      have HK0 : Hid (RelCk wa bc j (.int .i64 ((0 : Nat) : Int)) wa) := ⟨0, .slice none 0 0, by omega, rfl, Num.nil _ _, HKa.out, Below.refl _ _, Nat.le_refl _⟩
      go_wp2_with fail
      clear y4
      go_loopw [36] (fun v36 wr => RelCk wa bc j v36 wr) (fun v36 _ => 2 - (intOf v36).toNat)
      case atStart => exact HK0.out
      case round =>
        obtain ⟨k, v, hk, rfl, hnum, hcell, hb, hsz⟩ := hrel
        have HN := Lib.hid hnum
        have HC := Lib.hid hcell
        have HB := Lib.hid hb
        clear hnum hcell hb HK0 HKa
        by_cases hlk : k < 2
        · have k0 : (0 : Int) ≤ (k : Int) := by omega
          have k1 : (k : Int) < 2 := by omega
          have hwk : IntKind.i64.wrap ((k : Int) + 1) = (k : Int) + 1 := IntWalk.i64_in _ (by omega)
          obtain ⟨hrI, hrl⟩ := rowI hlk
          obtain ⟨bR, oR, Ai, ci, rfl, hbR, hcr, hir⟩ := (HRw.out.keep (HB.out.mono hbc)).at_ (i := k) hlk
          rw [hrI] at hcr hir
          rw [nz_len, hrl] at hcr
          obtain ⟨bi, oi, rfl, hbi, hce⟩ := hir.at_ (k := j) (by rw [nz_len, hrl]; exact hlt)
          rw [nz_getD] at hce
          have HST := Lib.hid (col_step hlt hlk)
          clear hrI hrl hir
          generalize (rowT k).getD j 0 = x at *
          go_upto_region 11 with fail
          have HSD : Hid (CkS bc v bi (oi + j) x wr.drew) := ⟨HC.out, hce⟩
          have HND : Hid (Num wr.drew wa.heap.size v ((colT j).take k)) := HN.out.grow (Below.refl _ wr).drew
          have HBD : Hid (Below bc wa wr.drew) := HB.out.drew
          have hszd : wa.heap.size ≤ wr.drew.heap.size := hsz
          have htl : ((colT j).take k).length ≤ 1000 := by rw [List.length_take]; omega
          refine wp_region_mixf 7 7 (CkS bc v bi (oi + j) x) [(0, 0), (1, 1), (1, 2), (1, 3), (0, 4), (2, 5), (2, 6)] default (by kernel_rfl) (by kernel_rfl) (fun _ _ d _ _ h => by cases d <;> exact h) HSD.out ?_
          generalize wr.drew = Wd at *
          clear HN HC HB hsz hcr hce
          simp only [List.map_cons, List.map_nil, List.getD_cons_zero, List.getD_cons_succ]
          apply mixf_val rfl
          · intro V hV
            have y : V.cell? ⟨bc, 0, none⟩ = some v := cell_of_row _ _ 0 _ _ _ hV.1
            go_simp
            rfl
          go_simp
          iterate 3
            apply mixf_free rfl
            · intro V
              go_simp
              rfl
            go_simp
          apply mixf_val rfl
          · intro V hV
            have y := hV.2
            go_simp
            rfl
          go_simp
          have hb5 : Below Wd.heap.size Wd (Wd.alloc (.cells #[.int .i64 (x : Int)] 3)) := (Below.refl _ _).alloc (Nat.le_refl _) _
          have HS5 : Hid (CkS bc v bi (oi + j) x (Wd.alloc (.cells #[.int .i64 (x : Int)] 3))) := ⟨(hb5.block bc (by omega)).trans HSD.out.1, (hb5.cell (p := ⟨bi, oi + j, none⟩) (by show bi < Wd.heap.size; omega)).trans HSD.out.2⟩
          have HN5 := Lib.hid (HND.out.grow hb5)
          have HB5 := Lib.hid (HBD.out.trans (hb5.mono (by omega)))
          have HK5 : Hid ((Wd.alloc (.cells #[.int .i64 (x : Int)] 3)).heap[Wd.heap.size]? = some (.cells #[.int .i64 (x : Int)] 3 (0, 0))) := heap_alloc_new _ _
          have hs5 : wa.heap.size ≤ (Wd.alloc (.cells #[.int .i64 (x : Int)] 3)).heap.size := Nat.le_trans hszd hb5.size
          apply mixf_step rfl (v := .slice (some ⟨Wd.heap.size, 0, none⟩) 1 1) (w' := Wd.alloc (.cells #[.int .i64 (x : Int)] 3))
          · go_simp
          · exact HS5.out
          go_simp
          generalize Wd.heap.size = nb at *
          generalize Wd.alloc (.cells #[.int .i64 (x : Int)] 3) = W5 at *
          obtain ⟨v', w6, hrun, hn6, hg6⟩ := app_int x nb HN5.out hs5 htl HK5.out
          have hb6 : Below wa.heap.size W5 w6 := (Below.refl _ _).grown hg6 hs5 (fun i hi => (World.ownsRow.lt HN5.out i hi).1)
          have HS6 : Hid (CkS bc v bi (oi + j) x w6) := ⟨(hb6.block bc hsa).trans HS5.out.1, (hb6.cell (p := ⟨bi, oi + j, none⟩) (by show bi < wa.heap.size; omega)).trans HS5.out.2⟩
          have HN6 := Lib.hid hn6
          rw [← HST.out] at HN6
          have HB6 := Lib.hid (HB5.out.trans (hb6.mono (Nat.le_of_lt hsa)))
          have hs6 : wa.heap.size ≤ w6.heap.size := Nat.le_trans hs5 hb6.size
          have hl6 : ((colT j).take (k + 1)).length = k + 1 := by rw [List.length_take, colT_len hlt]; omega
          obtain ⟨VA, ck, e6⟩ := HN6.out.slice
          rw [hl6] at e6
          subst e6
          clear hl6
          refine mixf_step rfl (exec_append (.tmp 40) (.tmp 45) 23 rfl rfl rfl hrun) HS6.out ?_
          go_simp
          clear hrun hn6 hg6 hb6 hb5 HS5 HN5 HB5 HK5 HSD HND HBD
          refine mixf_nil ?_
          show wpList _ _ _ _ _ _
          have yb : w6.cell? ⟨bc, 0, none⟩ = some v := cell_of_row _ _ 0 _ _ _ HS6.out.1
          have fb : w6.frozen? ⟨bc, 0, none⟩ = false := by simp [World.frozen?, HS6.out.1]
          have HK7 := Lib.hid (heap_set_same HS6.out.1 0 (.slice VA (k + 1) ck))
          have HN7 : Hid (Num (w6.setCell ⟨bc, 0, none⟩ (.slice VA (k + 1) ck)) wa.heap.size (.slice VA (k + 1) ck) ((colT j).take (k + 1))) := World.ownsRow.kept HN6.out (grown_set w6 ⟨bc, 0, none⟩ _) (.inr (fun e => by have := (World.ownsRow.lt HN6.out bc e).1; omega))
          have HB7 := Lib.hid (HB6.out.setCell (p := ⟨bc, 0, none⟩) (Nat.le_refl _) (.slice VA (k + 1) ck))
          have hs7 : wa.heap.size ≤ (w6.setCell ⟨bc, 0, none⟩ (.slice VA (k + 1) ck)).heap.size := by simpa using hs6
          go_wp2_with fail
          go_roundw
          case rel => exact ⟨k + 1, _, by omega, by go_num, HN7.out, HK7.out, HB7.out, hs7⟩
          case measure => first | (simp [intOf]; done) | (simp [intOf]; omega)
        · obtain rfl : k = 2 := by omega
          rw [colT_all hlt] at HN
          obtain ⟨p, hp, hp2, hpv⟩ := colT_ix hlt
          have hcl := colT_len hlt
          obtain ⟨VA, ck, ev⟩ := HN.out.slice
          rw [hcl] at ev
          subst ev
          have HUP : Hid (IntsAt wr wr.heap.size VA (nz (colT j))) := by
            have h := HN.out
            unfold Num at h
            rw [hcl] at h
            exact (ints_of_own h hcl).ints
          have HIX := Lib.hid (indexnz_c 100 columns1_c (enters_of Tryz.func100 (by kernel_rfl) rfl) (colT j) VA ck wr HUP.out (by omega))
          rw [hcl, hp] at HIX
          have yc : wr.cell? ⟨bc, 0, none⟩ = some (.slice VA 2 ck) := cell_of_row _ _ 0 _ _ _ HC.out
          obtain ⟨bv, ov, rfl, hbv, hcv⟩ := HUP.out.at_ (k := p) (by rw [nz_len, hcl]; exact hp2)
          rw [nz_getD, hpv] at hcv
          have p0 : (0 : Int) ≤ (p : Int) := by omega
          have p1 : (p : Int) < 2 := by omega
          have p3 : ¬ (p : Int) < 0 := by omega
          have HBw := Lib.hid (HBa.out.trans (HB.out.mono hbc))
          have HGw := Lib.hid ((HGF.out.keep HBw.out).more HBw.out.size)
          have HIV := Lib.hid (inv_c 1 gb 2 1 wr.heap.size _ lT wr ft_T HGw.out (by omega) (by omega))
          rw [inv_T] at HIV
          clear hp hpv HN
          go_wp2_with fail
          refine HIX.out.mono ?_
          rintro e w' ⟨rfl, rfl⟩
          clear HIX
          go_wp2_with fail
          refine HIV.out.mono ?_
          rintro e w' ⟨rfl, n, rfl⟩
          clear HIV hcv
          have yc2 : (wr.drewN n).cell? ⟨bc, 0, none⟩ = some (.slice (some ⟨bv, ov, none⟩) 2 ck) := yc
          have HSC := Lib.hid (scale_c 1 gb 2 1 _ lT (colT j) (some ⟨bv, ov, none⟩) ck (wr.drewN n) ft_T (HGw.out.keep (below_drewN (Below.refl _ _) n)) (by omega) (colT_lt hlt) (HUP.out.keep (below_drewN (Below.refl _ _) n)) (by omega))
          rw [scale_T hlt, hcl] at HSC
          have HKn : Hid ((wr.drewN n).heap[bc]? = some (.cells [.slice (some ⟨bv, ov, none⟩) 2 ck].toArray 23 (0, 0))) := HC.out
          have HBn : Hid (Below bc wa (wr.drewN n)) := below_drewN HB.out n
          have hbn : bc < (wr.drewN n).heap.size := Nat.lt_of_lt_of_le hsa hsz
          clear HUP HGw HBw HC HB hsz
          generalize wr.drewN n = wn at *
          go_wp2_with fail
          refine HSC.out.mono ?_
          rintro e w4 ⟨rfl, hr4, hb4⟩
          have HK4 := Lib.hid ((hb4.block bc hbn).trans HKn.out)
          have HR4 := Lib.hid hr4
          have HB4 := Lib.hid (HBn.out.trans (hb4.mono (Nat.le_of_lt hbn)))
          have hs4 := HR4.out.lt.2
          clear hr4 hb4 HSC HKn HBn yc yc2
          generalize wn.heap.size = gs at *
          clear wn
          have y5 : w4.cell? ⟨bc, 0, none⟩ = some (.slice (some ⟨bv, ov, none⟩) 2 ck) := cell_of_row _ _ 0 _ _ _ HK4.out
          have f5 : w4.frozen? ⟨bc, 0, none⟩ = false := by simp [World.frozen?, HK4.out]
          go_upto_region 18 with fail
          have HK5 := Lib.hid (heap_set_same HK4.out 0 (.slice (some ⟨gs, 0, none⟩) 2 2))
          have HR5 := Lib.hid (HR4.out.far (p := ⟨bc, 0, none⟩) (by show gs ≠ bc; omega) (.slice (some ⟨gs, 0, none⟩) 2 2))
          have HB5 := Lib.hid (HB4.out.setCell (p := ⟨bc, 0, none⟩) (Nat.le_refl _) (.slice (some ⟨gs, 0, none⟩) 2 2))
          clear y5 f5 HK4 HR4 HB4 hs4
          generalize w4.setCell ⟨bc, 0, none⟩ (.slice (some ⟨gs, 0, none⟩) 2 2) = w5 at *
          clear w4
          have HB5o : Hid (∀ W, Below bc w5 W → LGrid W w3.heap.size (.slice VO j co) R bs R.length) := fun W hW => HLO.out.grow (by rw [HSO.out]; exact HBO.out W (HB5.out.trans hW))
          have hs5 : w3.heap.size ≤ w5.heap.size := Nat.le_trans HBa.out.size HB5.out.size
          have hgs := HR5.out.lt
          have hRA : RowsAt w5 w5.heap.size VO (nzs R) := by
            have h := HB5o.out w5 (Below.refl _ _)
            rw [← HSL.out] at h
            exact h.up.rowsAt
          have HCF := Lib.hid (containsfar_c (nzs R) (nz (colT j)) VO (some ⟨gs, 0, none⟩) co 2 bc w5 hRA (by rw [nz_len, hcl]; exact cell_of_row _ _ 0 _ _ _ HK5.out) (HR5.out.ints HR5.out.lt.2) (by rw [nzs_len, HSL.out]; omega) HFAR.out)
          rw [nzs_len, HSL.out] at HCF
          clear hRA
          go_wp2_with fail
          refine HCF.out.mono ?_
          rintro e w' ⟨rfl, n2, rfl⟩
          clear HCF
          have yc : (w5.drewN n2).cell? ⟨bc, 0, none⟩ = some (.slice (some ⟨gs, 0, none⟩) 2 2) := cell_of_row _ _ 0 _ _ _ HK5.out
          have HBd : Hid (Below bc w5 (w5.drewN n2)) := below_drewN (Below.refl _ _) n2
          have HR6 : Hid (Row (w5.drewN n2) bc gs 2 (nz ((R ++ [colT j]).getD R.length []))) := by
            show Row _ _ _ _ _
            rw [getD_snoc_eq R (colT j) []]
            exact (HR5.out.below (below_drewN (Below.refl w5.heap.size w5) n2) hgs.2).base (by omega)
          have HB6 : Hid (Below bc wa (w5.drewN n2)) := HB5.out.trans HBd.out
          have HL6 := Lib.hid ((HB5o.out _ HBd.out).wide (colT j))
          have hs6 : w3.heap.size ≤ (w5.drewN n2).heap.size := hs5
          have hbs6 : bc < (w5.drewN n2).heap.size := Nat.lt_of_le_of_lt (by omega) hgs.2
          have hg2 : (R ++ [colT j]).getD R.length [] = colT j := getD_snoc_eq R (colT j) []
          clear HB5 HK5 HR5 HBd HB5o
          generalize w5.drewN n2 = w6 at *
          have HOW : Hid ((w6.alloc (.cells #[.slice (some ⟨gs, 0, none⟩) 2 2] 23)).ownsRow w3.heap.size 23 1 (.slice VO j co) j ((List.range j).map (hdr (R ++ [colT j]) bs))) := by
            have h := HL6.out.out
            rw [HSL.out] at h
            exact World.ownsRow.alloc h _
          go_wp2_with (at_builtin; refine wpList_append_own_at _ rfl (.tmp 72) (.tmp 74) 28 rfl w3.heap.size 23 i00 _ 1 24 Tryz.underlying28 HI'.out HZ0'.out HZ1'.out HZ2'.out rfl (by decide) (.slice VO j co) j ((List.range j).map (hdr (R ++ [colT j]) bs)) rfl HOW.out ⟨w6.heap.size, 0, none⟩ 1 1 [.slice (some ⟨gs, 0, none⟩) 2 2] rfl rfl ?c1 ?c2 ?c3 ?c4 ?c5 ?_)
          try case c1 => exact World.news_of_block (cs := #[.slice (some ⟨gs, 0, none⟩) 2 2]) (t := 23) (fr := (0, 0)) (heap_alloc_new w6 _)
          case c2 => first | rfl | (intro u hu; simp at hu; subst hu; rfl)
          case c3 => unfold maxLen; omega
          case c4 => omega
          case c5 => first | omega | (simp; omega) | assumption
          intro v' w7 hown' hgw _ hat
          have HLW := Lib.hid (HLO.out.wide (colT j))
          have hlow : ∀ i, (Value.slice VO j co).ownBlock = some i → w3.heap.size ≤ i := fun i hi => (World.ownsRow.lt HLO.out.out i hi).1
          have HX7 : Hid (LGrid w7 w3.heap.size v' (R ++ [colT j]) (bs ++ [(gs, 2)]) (R.length + 1)) := by
            refine HLW.out.step (by simp) (by rw [HSO.out]; exact hbc) (by rw [HSO.out]; exact HBO.out _ HB6.out) (by rw [HSO.out]; exact HR6.out) ?_ hgw (by simpa using hat)
            rw [hg2, hcl, HSL.out]
            exact hown'
          have HB7 : Hid (Below w3.heap.size w3 w7) := ((HBa.out.trans (HB6.out.mono hbc)).alloc hs6 _).grown hgw (by simp; omega) (fun i hi => hlow i hi)
          clear hown' hgw hat HOW HL6 HB6 HR6 hlow HLW
          go_wp2_with fail
          go_roundw
          case rel => exact ⟨j + 1, bs ++ [(gs, 2)], by omega, by go_num, by rw [HSN.out, List.length_append]; exact HX7.out, HB7.out⟩
          case measure => first | (simp [intOf]; done) | (simp [intOf]; omega)
    · go_wp2_with fail
      go_ret
      exact ⟨rfl, HX3.out.below.trans (HB.out.mono HX3.out.below.size)⟩
end Go.Proofs.YthiackegnpnmbaaGreat

namespace Go.Proofs.YthiackegnpnmbaaGreat
open Go.RowKit Pln

theorem mod_small {p m : Int} {mod : List Int} (h : fieldOK p m mod = true) : mod.length ≤ 8 := by
  have hsh : shapeM p m mod = true := by unfold fieldOK at h; rw [Bool.and_eq_true] at h; exact h.1
  have hs := shape_is hsh
  have hm2 := hs.small.m2
  by_cases hm : m = 1
  · unfold shapeM at hsh
    rw [if_pos hm, Bool.and_eq_true] at hsh
    have := hsh.2
    rw [beq_iff_eq] at this
    omega
  · have := hs.len hm
    omega
set_option maxHeartbeats 1000000 in
set_option maxRecDepth 100000 in
theorem rparity_c {p m : Nat} {md : List Nat} {A : Option Addr} {n cols : Nat} {rows : List (List Nat)} {Ah : Option Addr} {w : World} (h : RCode p m md A n cols rows Ah w) (c ch : Nat) :
    Calls Tryz.prog 45 #[.agg #[.int .i64 p, .int .i64 m, .slice A n c, .int .i64 cols, .slice Ah rows.length ch]] w (NullPost w (p ^ m) cols) := by
  have HX := Lib.hid (bx_new w [.int .i64 (p : Int), .int .i64 (m : Int), .slice A n c, .int .i64 (cols : Int), .slice Ah rows.length ch] 30)
  have h1 := h.n1
  have h2 := h.n2
  have h3 := h.len
  have HN : Hid (∀ W : World, Below w.heap.size w W → Calls Tryz.prog 93 #[.agg #[.int .i64 p, .int .i64 m, .slice A n c], .slice Ah rows.length ch, .int .i64 cols] W (NullPost W (p ^ m) cols)) := fun W hW => by
    have hl := h.lift hW
    exact rnull_c p m md A n c rows Ah ch cols W hl.fld hl.ft hl.grid hl.at_ h1 (by omega) h3
  clear h
  go_enter Tryz.func45, Tryz.ntmps45
  go_upto_region 1 with fail
  generalize w.alloc (.cells #[.int .i64 (p : Int), .int .i64 (m : Int), .slice A n c, .int .i64 (cols : Int), .slice Ah rows.length ch] 30) = W0 at *
  have HRG := Lib.hid HX.out.field
  have HN0 := Lib.hid (HN.out W0 HX.out.below)
  have c3 : W0.cell? ⟨w.heap.size, 3, none⟩ = some (.int .i64 (cols : Int)) := HX.out.cell rfl
  have c4 : W0.cell? ⟨w.heap.size, 4, none⟩ = some (.slice Ah rows.length ch) := HX.out.cell rfl
  go_wp2_with (refine wpList_load_mid rfl 27 (.tmp 3) rfl w.heap.size 0 rfl [.int .i64 (p : Int), .int .i64 (m : Int), .slice A n c] _ HRG.out Tryz.underlying27 rfl fieldSize ?_)
  refine HN0.out.mono ?_
  rintro e w1 ⟨⟨A', R, ck, rfl, h1, h2, h3⟩, hb⟩
  have HX1 := Lib.hid (HX.out.grow hb)
  have H1 := Lib.hid h1
  have H2 := Lib.hid h2
  have H3 := Lib.hid h3
  clear hb h1 h2 h3 HN HN0 HX HRG c3 c4
  go_wp2_with fail
  go_ret
  exact ⟨⟨A', R, ck, rfl, H1.out, H2.out, H3.out⟩, HX1.out.below⟩
def DualPost (w : World) (d : StD) (e : Ending) (w' : World) : Prop :=
  (∃ (A' : Option Addr) (c' : Nat) (G : Option Addr) (R : List (List Nat)) (k : Nat), e = .returned (.tuple #[.agg #[.int .i64 d.p, .int .i64 d.m, .slice A' d.mod.length c', .int .i64 d.n, .slice G R.length k], .int .i64 0]) ∧ IntsAt w' w'.heap.size A' d.mod ∧ RowsAt w' w'.heap.size G (nzs R) ∧ R.length ≤ 256) ∧ Below w.heap.size w w'
set_option maxHeartbeats 1000000 in
set_option maxRecDepth 100000 in
theorem rdual_c (d : StD) (Am : Option Addr) (cm : Nat) (A : Option Addr) (c : Nat) (w : World) (hz : codeZ d.p d.m d.mod d.n d.gen = 0) (hM : IntsAt w w.heap.size Am d.mod) (hA : RowsAt w w.heap.size A d.gen) :
    Calls Tryz.prog 26 #[.agg #[.int .i64 d.p, .int .i64 d.m, .slice Am d.mod.length cm, .int .i64 d.n, .slice A d.gen.length c]] w (DualPost w d) := by
  have HX := Lib.hid (b2_new w [.int .i64 d.p, .int .i64 d.m, .slice Am d.mod.length cm, .int .i64 d.n, .slice A d.gen.length c] 30 [.int .i64 0, .int .i64 0, .slice none 0 0, .int .i64 0, .slice none 0 0] 30)
  obtain ⟨hok, n1, n2, hnn, hgr, hlen⟩ := code_form hz
  have hml := mod_small hok
  have HM := Lib.hid hM
  have HA := Lib.hid hA
  have HCK : Hid (∀ W : World, Below w.heap.size w W → Calls Tryz.prog 7 #[.agg #[.int .i64 d.p, .int .i64 d.m, .slice Am d.mod.length cm, .int .i64 d.n, .slice A d.gen.length c]] W fun e w' => e = .returned (.int .i64 0) ∧ Below W.heap.size W w') := fun W hW => by
    have := rcodecheck_c d.p d.m d.mod Am cm d.n d.gen A c W ((HM.out.keep hW).more hW.size) (by omega) ((HA.out.keep hW).more hW.size) (by omega)
    rw [hz] at this
    exact this
  obtain ⟨_, e1, e2, e3, e4⟩ := code_nat hz hM hA
  have HPA : Hid (∀ W : World, Below w.heap.size w W → Calls Tryz.prog 45 #[.agg #[.int .i64 d.p, .int .i64 d.m, .slice Am d.mod.length cm, .int .i64 d.n, .slice A d.gen.length c]] W (NullPost W (d.p.toNat ^ d.m.toNat) d.n.toNat)) := fun W hW => by
    obtain ⟨hrc, _⟩ := code_nat hz ((HM.out.keep hW).more hW.size) ((HA.out.keep hW).more hW.size)
    have := rparity_c hrc cm c
    rw [e1, e2, e3, e4] at this
    exact this
  have HMK : Hid (∀ (R : List (List Nat)) (A2 : Option Addr) (c2 : Nat) (W : World), Below w.heap.size w W → Grid (d.p.toNat ^ d.m.toNat) R.length d.n.toNat R → RowsAt W W.heap.size A2 (nzs R) → R.length ≤ 256 → Calls Tryz.prog 44 #[.agg #[.int .i64 d.p, .int .i64 d.m, .slice Am d.mod.length cm], .slice A2 R.length c2, .int .i64 d.n] W fun e w' => (∃ (A' : Option Addr) (c' : Nat) (G : Option Addr) (R' : List (List Nat)) (k : Nat), e = .returned (.agg #[.int .i64 d.p, .int .i64 d.m, .slice A' d.mod.length c', .int .i64 d.n, .slice G R'.length k]) ∧ IntsUp w' W.heap.size A' d.mod ∧ RowsUp w' W.heap.size G (nzs R') ∧ R'.length ≤ 256) ∧ Below W.heap.size W w') := fun R A2 c2 W hW hg hr hl => by
    obtain ⟨hrc, _⟩ := code_nat hz ((HM.out.keep hW).more hW.size) ((HA.out.keep hW).more hW.size)
    have := rmake_c d.p.toNat d.m.toNat (mdOf d.m d.mod) Am d.mod cm R A2 c2 d.n.toNat W hrc.fld hrc.ft ((HM.out.keep hW).more hW.size) (by omega) hg hr (by omega) (by omega) hl
    unfold MakePost at this
    rw [e1, e2, e3] at this
    exact this
  have hgl := e4
  clear hM hA hz hok hnn hgr e1 e2 e3 e4 HM HA
  generalize d.p.toNat ^ d.m.toNat = q at *
  generalize d.n.toNat = nn at *
  go_enter Tryz.func26, Tryz.ntmps26
  go_upto_region 1 with fail
  generalize (w.alloc (.cells #[.int .i64 d.p, .int .i64 d.m, .slice Am d.mod.length cm, .int .i64 d.n, .slice A d.gen.length c] 30)).alloc (.cells #[.int .i64 0, .int .i64 0, .slice none 0 0, .int .i64 0, .slice none 0 0] 30) = W0 at *
  have HRG := Lib.hid HX.out.range
  have HC1 := Lib.hid (HCK.out W0 HX.out.below)
  go_wp2_with (refine wpList_load_mid rfl 30 (.tmp 1) rfl w.heap.size 0 rfl [.int .i64 d.p, .int .i64 d.m, .slice Am d.mod.length cm, .int .i64 d.n, .slice A d.gen.length c] _ HRG.out Tryz.underlying30 rfl codeSize ?_)
  refine HC1.out.mono ?_
  rintro e w1 ⟨rfl, hb1⟩
  have HX1 := Lib.hid (HX.out.grow hb1)
  have hs0 := HX.out.2.2.2
  clear hb1 HC1 HRG HX HCK
  go_upto_region 4 with fail
  have HS0 : Hid (B2 w [.int .i64 d.p, .int .i64 d.m, .slice Am d.mod.length cm, .int .i64 d.n, .slice A d.gen.length c] 30 [.int .i64 0, .int .i64 0, .slice none 0 0, .int .i64 0, .slice none 0 0] 30 w1.drew) := HX1.out.grow (Below.refl _ _).drew
  refine wp_region_mixf 7 7 (B2 w [.int .i64 d.p, .int .i64 d.m, .slice Am d.mod.length cm, .int .i64 d.n, .slice A d.gen.length c] 30 [.int .i64 0, .int .i64 0, .slice none 0 0, .int .i64 0, .slice none 0 0] 30) [(1, 0), (0, 1), (0, 2), (1, 4), (0, 5), (2, 3), (2, 6)] default (by kernel_rfl) (by kernel_rfl) (fun _ _ d _ _ h => by cases d <;> exact h) HS0.out ?_
  simp only [List.map_cons, List.map_nil, List.getD_cons_zero, List.getD_cons_succ]
  generalize w1.drew = Wd at *
  clear HX1
  apply mixf_free rfl
  · intro W
    go_simp
    rfl
  go_simp
  refine mixf_load_mid rfl 27 (.tmp 11) rfl w.heap.size 0 rfl [.int .i64 d.p, .int .i64 d.m, .slice Am d.mod.length cm] _ (fun W hW => hW.field) Tryz.underlying27 rfl fieldSize ?_
  go_simp
  refine mixf_load_mid rfl 30 (.tmp 1) rfl w.heap.size 0 rfl [.int .i64 d.p, .int .i64 d.m, .slice Am d.mod.length cm, .int .i64 d.n, .slice A d.gen.length c] _ (fun W hW => hW.range) Tryz.underlying30 rfl codeSize ?_
  go_simp
  apply mixf_free rfl
  · intro W
    go_simp
    rfl
  go_simp
  apply mixf_val rfl
  · intro W hW
    have z0 : W.cell? ⟨w.heap.size, 3, none⟩ = some (.int .i64 d.n) := hW.cell rfl
    go_simp
    rfl
  go_simp
  apply mixf_call rfl
  · go_simp
    exact ⟨rfl, rfl⟩
  with_reducible refine (HPA.out Wd HS0.out.below).mono ?_
  rintro e w2 ⟨⟨A', R, ck, rfl, hra, hgr, hrl⟩, hb2⟩
  have HS2 := Lib.hid (HS0.out.grow hb2)
  have HMK2 := Lib.hid (HMK.out R A' ck w2 HS2.out.below hgr hra hrl)
  refine ⟨_, rfl, HS2.out, ?_⟩
  clear hb2 hra hgr HMK HPA
  go_simp
  apply mixf_call rfl
  · go_simp
    exact ⟨rfl, rfl⟩
  with_reducible refine HMK2.out.mono ?_
  rintro e w3 ⟨⟨B', c', G, R', k', rfl, hi3, hr3, hl3⟩, hb3⟩
  have HS3 := Lib.hid (HS2.out.grow hb3)
  have HI3 := Lib.hid hi3
  have HR3 := Lib.hid hr3
  have hs2 := HS2.out.2.2.2
  refine ⟨_, rfl, HS3.out, ?_⟩
  clear hb3 hi3 hr3 HMK2
  go_simp
  refine mixf_nil ?_
  show wpList _ _ _ _ _ _
  go_simp
  have HK := Lib.hid HS3.out.2.1
  have HY := Lib.hid (HS3.out.set [.int .i64 d.p, .int .i64 d.m, .slice B' d.mod.length c', .int .i64 d.n, .slice G R'.length k'])
  go_wp2_with (refine wpList_store_row rfl 30 (.tmp 2) (.tmp 17) rfl w3 (w.heap.size + 1) 30 #[.int .i64 0, .int .i64 0, .slice none 0 0, .int .i64 0, .slice none 0 0] #[.int .i64 d.p, .int .i64 d.m, .slice B' d.mod.length c', .int .i64 d.n, .slice G R'.length k'] rfl rfl HK.out codeSize rfl (by simp [Value.oneCell']) ?_)
  refine bodyPost_ret (results_row_one (P := Tryz.prog) rfl _ _ (w.heap.size + 1) 30 #[.int .i64 d.p, .int .i64 d.m, .slice B' d.mod.length c', .int .i64 d.n, .slice G R'.length k'] (0, 0) _ _ rfl rfl HY.out.2.1 Tryz.underlying30 rfl codeSize) rfl ?_
  have hu : IntsUp (w3.setRow (w.heap.size + 1) #[.int .i64 d.p, .int .i64 d.m, .slice B' d.mod.length c', .int .i64 d.n, .slice G R'.length k']) w2.heap.size B' d.mod := HI3.out.of_blocks (by simp) fun k hk _ => setRow_other w3 (w.heap.size + 1) k _ (by omega)
  have hv : RowsUp (w3.setRow (w.heap.size + 1) #[.int .i64 d.p, .int .i64 d.m, .slice B' d.mod.length c', .int .i64 d.n, .slice G R'.length k']) w2.heap.size G (nzs R') := HR3.out.of_blocks (by simp) fun k hk _ => setRow_other w3 (w.heap.size + 1) k _ (by omega)
  exact ⟨⟨B', c', G, R', k', rfl, hu.ints, hv.rowsAt, hl3⟩, HY.out.below⟩
end Go.Proofs.YthiackegnpnmbaaGreat

