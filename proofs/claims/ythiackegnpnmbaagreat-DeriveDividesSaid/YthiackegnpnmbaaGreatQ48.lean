/-
  The reference: Few of a derivation; the law's few. The law's few. The plain law: an accepted step by divisibility makes a true claim if its premise does.
-/
import Derived.Test.YthiackegnpnmbaaGreatQ47
import Derived.Test.YthiackegnpnmbaaGreatQ25
import Derived.Test.YthiackegnpnmbaaGreatQ43
import Derived.Test.YthiackegnpnmbaaGreatQ21
namespace Go.Proofs.YthiackegnpnmbaaGreat
open Go.RowKit Pln

theorem StsAt.more' {w : World} {B B' : Nat} {A : Option Addr} {ds : List StD} (h : StsAt w B A ds) (hB : B ≤ B') : StsAt w B' A ds := fun hz => by
  obtain ⟨b, o, e, hlt, hc⟩ := h hz
  refine ⟨b, o, e, by omega, fun i d hd => ?_⟩
  obtain ⟨cs, h1, h2⟩ := hc i d hd
  exact ⟨cs, h1, h2.more hB⟩
def RelFw (w : World) (n : Nat) (v3 : Value) (wr : World) : Prop := ∃ k : Nat, k ≤ n ∧ v3 = .int .i64 k ∧ Below w.heap.size w wr
def FewPost (w : World) (n : Nat) (e : Ending) (w' : World) : Prop := ∃ b, e = .returned (.bool b) ∧ Below w.heap.size w w' ∧ (b = true → n ≤ 12)
set_option maxHeartbeats 8000000 in
set_option maxRecDepth 100000 in
theorem rfewD_c (ds : List StD) (A : Option Addr) (c : Nat) (w : World) (hA : StsAt w w.heap.size A ds) (hk : ∀ d ∈ ds, d.ok) :
    Calls Tryz.prog 13 #[.slice A ds.length c] w (FewPost w ds.length) := by
  have HA := Lib.hid hA
  have HK := Lib.hid hk
  clear hA hk
  go_enter Tryz.func13, Tryz.ntmps13
  by_cases h12 : (12 : Int) < (ds.length : Int)
  · go_wp2_with fail
    go_ret
    exact ⟨_, rfl, Below.refl _ _, fun h => by cases h⟩
  have HL12 : Hid (ds.length ≤ 12) := by show _ ≤ _; omega
  go_wp2_with fail
  go_loopw [3] (fun v3 wr => RelFw w ds.length v3 wr) (fun v3 _ => ds.length - (intOf v3).toNat)
  case atStart => exact ⟨0, Nat.zero_le _, rfl, Below.refl _ _⟩
  case round =>
    obtain ⟨k, hkl, rfl, hb⟩ := hrel
    have HB := Lib.hid hb
    clear hb
    by_cases hlt : k < ds.length
    · have k0 : (0 : Int) ≤ (k : Int) := by omega
      have k1 : (k : Int) < (ds.length : Int) := by omega
      have hw1 : IntKind.i64.wrap ((k : Int) + 1) = (k : Int) + 1 := IntWalk.i64_in _ (by omega)
      obtain ⟨b, o, csl, rfl, hbl, hrg, hst⟩ := (HA.out.keep HB.out).at_ hlt
      have hso : (ds[k]'hlt).ok := HK.out _ (List.getElem_mem hlt)
      generalize ds[k]'hlt = s at *
      have HST := Lib.hid (hst.more HB.out.size)
      obtain ⟨Am, Ag, Af, Aa, Ab, Ap, Aq, Ar, As, At, cm, cg, cf, ca, cb, cp, cq, cr, cs', ct, rfl, hcg, h1, h2, h3, h4, h5⟩ := hst
      have HM := Lib.hid (h1.more HB.out.size)
      have HG := Lib.hid (h2.more HB.out.size)
      have HT := Lib.hid (h5.more HB.out.size)
      have HRB := Lib.hid hrg
      obtain ⟨s1, s2, _⟩ := hso
      have eml : maxLen = 9223372036854775807 := rfl
      rw [eml] at s1 s2
      have HX := Lib.hid (sb_new wr (stCells s Am Ag Af Aa Ab Ap Aq Ar As At cm cg cf ca cb cp cq cr cs' ct))
      have HONE : Hid ((stCells s Am Ag Af Aa Ab Ap Aq Ar As At cm cg cf ca cb cp cq cr cs' ct).toArray.all (·.oneCell') = true) := by show _ = _; simp [stCells, Value.oneCell']
      clear hcg h1 h2 h3 h4 h5 hrg HST
      go_upto_region 7 with (first
        | (refine wpList_load_mid rfl 38 (.tmp 18) rfl b (o + k * 23) rfl (stCells s Am Ag Af Aa Ab Ap Aq Ar As At cm cg cf ca cb cp cq cr cs' ct) _ HRB.out Tryz.underlying38 rfl stepSize ?_)
        | (refine wpList_store_new rfl 38 (.tmp 4) (.tmp 19) rfl wr _ (stCells s Am Ag Af Aa Ab Ap Aq Ar As At cm cg cf ca cb cp cq cr cs' ct).toArray rfl rfl stepSize rfl HONE.out ?_))
      generalize wr.alloc (.cells (stCells s Am Ag Af Aa Ab Ap Aq Ar As At cm cg cf ca cb cp cq cr cs' ct).toArray 38) = W0 at *
      clear HRB HONE
      have y1 : W0.cell? ⟨wr.heap.size, 1, none⟩ = some (.int .i64 s.p) := HX.out.cell rfl
      have y2 : W0.cell? ⟨wr.heap.size, 2, none⟩ = some (.int .i64 s.m) := HX.out.cell rfl
      have y3 : W0.cell? ⟨wr.heap.size, 3, none⟩ = some (.slice Am s.mod.length cm) := HX.out.cell rfl
      have y4 : W0.cell? ⟨wr.heap.size, 4, none⟩ = some (.int .i64 s.n) := HX.out.cell rfl
      have y5 : W0.cell? ⟨wr.heap.size, 5, none⟩ = some (.slice Ag s.gen.length cg) := HX.out.cell rfl
      have y7 : W0.cell? ⟨wr.heap.size, 7, none⟩ = some (.slice Af s.frm.length cf) := HX.out.cell rfl
      have y8 : W0.cell? ⟨wr.heap.size, 8, none⟩ = some (.slice Aa s.at_.length ca) := HX.out.cell rfl
      have y17 : W0.cell? ⟨wr.heap.size, 17, none⟩ = some (.slice Ap s.points cp) := HX.out.cell rfl
      have y18 : W0.cell? ⟨wr.heap.size, 18, none⟩ = some (.slice Aq s.mults cq) := HX.out.cell rfl
      have y19 : W0.cell? ⟨wr.heap.size, 19, none⟩ = some (.slice Ar s.perm cr) := HX.out.cell rfl
      have y20 : W0.cell? ⟨wr.heap.size, 20, none⟩ = some (.slice As s.scale cs') := HX.out.cell rfl
      have y22 : W0.cell? ⟨wr.heap.size, 22, none⟩ = some (.slice At s.sets.length ct) := HX.out.cell rfl
      by_cases n24 : (24 : Int) < s.n
      · go_wp2_with fail
        go_ret
        exact ⟨_, rfl, HB.out.trans (HX.out.2.1.mono HB.out.size), fun _ => HL12.out⟩
      by_cases g24 : (24 : Int) < (s.gen.length : Int)
      · go_wp2_with fail
        go_ret
        exact ⟨_, rfl, HB.out.trans (HX.out.2.1.mono HB.out.size), fun _ => HL12.out⟩
      have HF := Lib.hid (fewN_c 700 (.int .i64 s.p) (.int .i64 s.m) (.slice Am s.mod.length cm) (.int .i64 s.n) s.gen Ag cg W0 ((HG.out.keep HX.out.2.1).more HX.out.2.1.size) (by decide) (by decide))
      go_wp2_with fail
      (with_reducible refine HF.out.mono ?_)
      rintro e w1 ⟨b1, rfl, hb1⟩
      have HX1 := Lib.hid (HX.out.grow hb1)
      clear hb1 HF HX
      clear y1 y2 y3 y4 y5 y7 y8 y17 y18 y19 y20 y22
      have y1 : w1.cell? ⟨wr.heap.size, 1, none⟩ = some (.int .i64 s.p) := HX1.out.cell rfl
      have y2 : w1.cell? ⟨wr.heap.size, 2, none⟩ = some (.int .i64 s.m) := HX1.out.cell rfl
      have y3 : w1.cell? ⟨wr.heap.size, 3, none⟩ = some (.slice Am s.mod.length cm) := HX1.out.cell rfl
      have y4 : w1.cell? ⟨wr.heap.size, 4, none⟩ = some (.int .i64 s.n) := HX1.out.cell rfl
      have y5 : w1.cell? ⟨wr.heap.size, 5, none⟩ = some (.slice Ag s.gen.length cg) := HX1.out.cell rfl
      have y7 : w1.cell? ⟨wr.heap.size, 7, none⟩ = some (.slice Af s.frm.length cf) := HX1.out.cell rfl
      have y8 : w1.cell? ⟨wr.heap.size, 8, none⟩ = some (.slice Aa s.at_.length ca) := HX1.out.cell rfl
      have y17 : w1.cell? ⟨wr.heap.size, 17, none⟩ = some (.slice Ap s.points cp) := HX1.out.cell rfl
      have y18 : w1.cell? ⟨wr.heap.size, 18, none⟩ = some (.slice Aq s.mults cq) := HX1.out.cell rfl
      have y19 : w1.cell? ⟨wr.heap.size, 19, none⟩ = some (.slice Ar s.perm cr) := HX1.out.cell rfl
      have y20 : w1.cell? ⟨wr.heap.size, 20, none⟩ = some (.slice As s.scale cs') := HX1.out.cell rfl
      have y22 : w1.cell? ⟨wr.heap.size, 22, none⟩ = some (.slice At s.sets.length ct) := HX1.out.cell rfl
      clear W0
      cases b1
      · go_wp2_with fail
        go_ret
        exact ⟨_, rfl, HB.out.trans (HX1.out.2.1.mono HB.out.size), fun _ => HL12.out⟩
      obtain ⟨e1, he1⟩ : ∃ e1, IntKind.i64.wrap ((s.at_.length : Int) + (s.points : Int)) = e1 := ⟨_, rfl⟩
      obtain ⟨e2, he2⟩ : ∃ e2, IntKind.i64.wrap (e1 + (s.mults : Int)) = e2 := ⟨_, rfl⟩
      obtain ⟨e3, he3⟩ : ∃ e3, IntKind.i64.wrap (e2 + (s.perm : Int)) = e3 := ⟨_, rfl⟩
      obtain ⟨e4, he4⟩ : ∃ e4, IntKind.i64.wrap (e3 + (s.scale : Int)) = e4 := ⟨_, rfl⟩
      obtain ⟨e5, he5⟩ : ∃ e5, IntKind.i64.wrap (e4 + (s.frm.length : Int)) = e5 := ⟨_, rfl⟩
      by_cases hs : (200 : Int) < e5
      · go_wp2_with fail
        go_ret
        exact ⟨_, rfl, HB.out.trans (HX1.out.2.1.mono HB.out.size), fun _ => HL12.out⟩
      have HF := Lib.hid (xfew_c s.sets At ct w1 ((HT.out.keep HX1.out.2.1).more HX1.out.2.1.size))
      go_wp2_with fail
      (with_reducible refine HF.out.mono ?_)
      rintro e w2 ⟨b2, rfl, hb2⟩
      have HX2 := Lib.hid (HX1.out.grow hb2)
      clear hb2 HF HX1 he1 he2 he3 he4 he5
      clear y1 y2 y3 y4 y5 y7 y8 y17 y18 y19 y20 y22
      clear w1
      cases b2
      · go_wp2_with fail
        go_ret
        exact ⟨_, rfl, HB.out.trans (HX2.out.2.1.mono HB.out.size), fun _ => HL12.out⟩
      have HRC : Hid (w2.rangeAt wr.heap.size 1 [.int .i64 s.p, .int .i64 s.m, .slice Am s.mod.length cm, .int .i64 s.n, .slice Ag s.gen.length cg]) := HX2.out.code
      have HCK := Lib.hid (rcodecheck_c s.p s.m s.mod Am cm s.n s.gen Ag cg w2 ((HM.out.keep HX2.out.2.1).more HX2.out.2.1.size) s1 ((HG.out.keep HX2.out.2.1).more HX2.out.2.1.size) s2)
      go_wp2_with (refine wpList_load_mid rfl 30 (.tmp 71) rfl wr.heap.size 1 rfl [.int .i64 s.p, .int .i64 s.m, .slice Am s.mod.length cm, .int .i64 s.n, .slice Ag s.gen.length cg] _ HRC.out Tryz.underlying30 rfl codeSize ?_)
      (with_reducible refine HCK.out.mono ?_)
      rintro e w3 ⟨rfl, hb3⟩
      have HX3 := Lib.hid (HX2.out.grow hb3)
      clear hb3 HCK HX2 HRC
      clear w2
      have HB3 := Lib.hid (HB.out.trans (HX3.out.2.1.mono HB.out.size))
      by_cases hz : codeZ s.p s.m s.mod s.n s.gen = 0
      · have HRC : Hid (w3.rangeAt wr.heap.size 1 [.int .i64 s.p, .int .i64 s.m, .slice Am s.mod.length cm, .int .i64 s.n, .slice Ag s.gen.length cg]) := HX3.out.code
        have HDU := Lib.hid (rdual_c s Am cm Ag cg w3 hz ((HM.out.keep HX3.out.2.1).more HX3.out.2.1.size) ((HG.out.keep HX3.out.2.1).more HX3.out.2.1.size))
        have hgl : s.gen.length ≤ 256 := (code_form hz).2.2.2.2.2
        have HCN : Hid (∀ W, Below wr.heap.size wr W → Calls Tryz.prog 22 #[.agg #[.int .i64 s.p, .int .i64 s.m, .slice Am s.mod.length cm, .int .i64 s.n, .slice Ag s.gen.length cg], .int .i64 1024] W fun e w' => e = .returned (.int .i64 (cnV s.p s.m s.mod s.n s.gen 1024)) ∧ Below W.heap.size W w') := fun W hW =>
          count_c s.p s.m s.mod Am cm s.n s.gen Ag cg 1024 W ((HM.out.keep hW).more hW.size) s1 ((HG.out.keep hW).more hW.size) (by omega)
        rw [hz]
        clear hz
        go_upto_region 10 with fail
        go_wp2_with (refine wpList_load_mid rfl 30 (.tmp 76) rfl wr.heap.size 1 rfl [.int .i64 s.p, .int .i64 s.m, .slice Am s.mod.length cm, .int .i64 s.n, .slice Ag s.gen.length cg] _ HRC.out Tryz.underlying30 rfl codeSize ?_)
        (with_reducible refine HDU.out.mono ?_)
        rintro e w4 ⟨⟨B', c', G, R, k', rfl, hi4, hr4, hl4⟩, hb4⟩
        have HX4 := Lib.hid (HX3.out.grow hb4)
        have hba : Below w4.heap.size w4 (w4.alloc (.cells #[.int .i64 s.p, .int .i64 s.m, .slice B' s.mod.length c', .int .i64 s.n, .slice G R.length k'] 30)) := (Below.refl _ _).alloc (Nat.le_refl _) _
        have HX5 := Lib.hid (HX4.out.grow hba)
        have HI5 := Lib.hid ((hi4.keep hba).more hba.size)
        have HR5 := Lib.hid ((hr4.keep hba).more hba.size)
        have HD5 := Lib.hid (heap_alloc_new w4 (.cells #[.int .i64 s.p, .int .i64 s.m, .slice B' s.mod.length c', .int .i64 s.n, .slice G R.length k'] 30))
        have HD6 : Hid (w4.heap.size < (w4.alloc (.cells #[.int .i64 s.p, .int .i64 s.m, .slice B' s.mod.length c', .int .i64 s.n, .slice G R.length k'] 30)).heap.size) := by show _ < _; simp
        clear hb4 hi4 hr4 HDU HX3 HRC hba HX4 HB3
        go_upto_region 11 with (refine wpList_store_new rfl 30 (.tmp 5) (.tmp 79) rfl w4 _ #[.int .i64 s.p, .int .i64 s.m, .slice B' s.mod.length c', .int .i64 s.n, .slice G R.length k'] rfl rfl codeSize rfl (by simp [Value.oneCell']) ?_)
        generalize w4.alloc (.cells #[.int .i64 s.p, .int .i64 s.m, .slice B' s.mod.length c', .int .i64 s.n, .slice G R.length k'] 30) = w5 at *
        have HB5 := Lib.hid (HB.out.trans (HX5.out.2.1.mono HB.out.size))
        have y0 : w5.cell? ⟨wr.heap.size, 0, none⟩ = some (.int .i64 s.rule) := HX5.out.cell rfl
        have y1 : w5.cell? ⟨wr.heap.size, 1, none⟩ = some (.int .i64 s.p) := HX5.out.cell rfl
        have y2 : w5.cell? ⟨wr.heap.size, 2, none⟩ = some (.int .i64 s.m) := HX5.out.cell rfl
        have y3 : w5.cell? ⟨wr.heap.size, 3, none⟩ = some (.slice Am s.mod.length cm) := HX5.out.cell rfl
        have y4 : w5.cell? ⟨wr.heap.size, 4, none⟩ = some (.int .i64 s.n) := HX5.out.cell rfl
        have y5 : w5.cell? ⟨wr.heap.size, 5, none⟩ = some (.slice Ag s.gen.length cg) := HX5.out.cell rfl
        by_cases h15 : s.rule = 15
        · have r15 : (s.rule == 15) = true := beq_iff_eq.2 h15
          have r16 : (s.rule == 16) = false := beq_false_of_ne (by omega)
          have HC5 := Lib.hid (HCN.out w5 HX5.out.2.1)
          clear h15 HCN
          by_cases hcn : cnV s.p s.m s.mod s.n s.gen 1024 = 0
          · rw [hcn] at HC5
            clear hcn
            go_wp2_with fail
            (with_reducible refine HC5.out.mono ?_)
            rintro e w6 ⟨rfl, hb6⟩
            have HX6 := Lib.hid (HX5.out.grow hb6)
            have HB6 := Lib.hid (HB.out.trans (HX6.out.2.1.mono HB.out.size))
            clear hb6 HC5 HX5 y0 y1 y2 y3 y4 y5
            have y0 : w6.cell? ⟨wr.heap.size, 0, none⟩ = some (.int .i64 s.rule) := HX6.out.cell rfl
            go_wp2_with fail
            go_ret
            exact ⟨_, rfl, HB6.out, fun _ => HL12.out⟩
          · have hc0 : (cnV s.p s.m s.mod s.n s.gen 1024 == 0) = false := beq_false_of_ne hcn
            generalize cnV s.p s.m s.mod s.n s.gen 1024 = cv at *
            clear hcn
            go_wp2_with fail
            (with_reducible refine HC5.out.mono ?_)
            rintro e w6 ⟨rfl, hb6⟩
            have HX6 := Lib.hid (HX5.out.grow hb6)
            have HB6 := Lib.hid (HB.out.trans (HX6.out.2.1.mono HB.out.size))
            clear hb6 HC5 HX5 y0 y1 y2 y3 y4 y5
            have y0 : w6.cell? ⟨wr.heap.size, 0, none⟩ = some (.int .i64 s.rule) := HX6.out.cell rfl
            go_wp2_with fail
            go_roundw
            case rel => exact ⟨k + 1, by omega, by go_num, HB6.out⟩
            case measure => simp [intOf]; omega
        · have r15 : (s.rule == 15) = false := beq_false_of_ne h15
          clear h15 HCN
          by_cases h16 : s.rule = 16
          · have r16 : (s.rule == 16) = true := beq_iff_eq.2 h16
            have HC5 := Lib.hid (count_c s.p s.m s.mod B' c' s.n (nzs R) G k' 1024 w5 HI5.out s1 HR5.out (by rw [nzs_len]; omega))
            rw [nzs_len] at HC5
            have d0 : w5.cell? ⟨w4.heap.size, 0, none⟩ = some (.int .i64 s.p) := cell_of_row _ _ 0 _ _ _ HD5.out
            have d1 : w5.cell? ⟨w4.heap.size, 1, none⟩ = some (.int .i64 s.m) := cell_of_row _ _ 1 _ _ _ HD5.out
            have d2 : w5.cell? ⟨w4.heap.size, 2, none⟩ = some (.slice B' s.mod.length c') := cell_of_row _ _ 2 _ _ _ HD5.out
            have d3 : w5.cell? ⟨w4.heap.size, 3, none⟩ = some (.int .i64 s.n) := cell_of_row _ _ 3 _ _ _ HD5.out
            have d4 : w5.cell? ⟨w4.heap.size, 4, none⟩ = some (.slice G R.length k') := cell_of_row _ _ 4 _ _ _ HD5.out
            clear h16
            by_cases hcn : cnV s.p s.m s.mod s.n (nzs R) 1024 = 0
            · rw [hcn] at HC5
              clear hcn
              go_wp2_with fail
              (with_reducible refine HC5.out.mono ?_)
              rintro e w6 ⟨rfl, hb6⟩
              have HX6 := Lib.hid (HX5.out.grow hb6)
              have HB6 := Lib.hid (HB.out.trans (HX6.out.2.1.mono HB.out.size))
              clear hb6 HC5 HX5 y0 y1 y2 y3 y4 y5
              go_wp2_with fail
              go_ret
              exact ⟨_, rfl, HB6.out, fun _ => HL12.out⟩
            · have hc0 : (cnV s.p s.m s.mod s.n (nzs R) 1024 == 0) = false := beq_false_of_ne hcn
              generalize cnV s.p s.m s.mod s.n (nzs R) 1024 = cv at *
              clear hcn
              go_wp2_with fail
              (with_reducible refine HC5.out.mono ?_)
              rintro e w6 ⟨rfl, hb6⟩
              have HX6 := Lib.hid (HX5.out.grow hb6)
              have HB6 := Lib.hid (HB.out.trans (HX6.out.2.1.mono HB.out.size))
              clear hb6 HC5 HX5 y0 y1 y2 y3 y4 y5
              go_wp2_with fail
              go_roundw
              case rel => exact ⟨k + 1, by omega, by go_num, HB6.out⟩
              case measure => simp [intOf]; omega
          · have r16 : (s.rule == 16) = false := beq_false_of_ne h16
            clear h16
            go_wp2_with fail
            go_roundw
            case rel => exact ⟨k + 1, by omega, by go_num, HB5.out⟩
            case measure => simp [intOf]; omega
      · have hz1 : (codeZ s.p s.m s.mod s.n s.gen != 0) = true := bne_iff_ne.2 hz
        generalize codeZ s.p s.m s.mod s.n s.gen = z at *
        go_wp2_with fail
        go_roundw
        case rel => exact ⟨k + 1, by omega, by go_num, HB3.out⟩
        case measure => simp [intOf]; omega
    · obtain rfl : k = ds.length := by omega
      go_wp2_with fail
      go_ret
      exact ⟨_, rfl, HB.out, fun _ => HL12.out⟩
end Go.Proofs.YthiackegnpnmbaaGreat

namespace Go.Proofs.YthiackegnpnmbaaGreat
open Go.RowKit Pln

def RelFl (w : World) (n : Nat) (v3 v4 v5 : Value) (wr : World) : Prop := ∃ (k : Nat) (b1 b2 : Bool), k ≤ n ∧ v3 = .bool b1 ∧ v4 = .bool b2 ∧ v5 = .int .i64 k ∧ Below w.heap.size w wr
def FlS (w : World) (b ok' : Nat) (n : Int) (A : Option Addr) (l c : Nat) (W : World) : Prop := Below w.heap.size w W ∧ W.cell? ⟨b, ok' + 4, none⟩ = some (.int .i64 n) ∧ W.cell? ⟨b, ok' + 5, none⟩ = some (.slice A l c)
set_option maxHeartbeats 8000000 in
set_option maxRecDepth 100000 in
theorem few_c (ds : List StD) (A : Option Addr) (c : Nat) (w : World) (hA : StsAt w w.heap.size A ds) (hk : ∀ d ∈ ds, d.ok) (hl : ds.length ≤ maxLen) :
    Calls Tryz.prog 5 #[.slice A ds.length c] w (FewPost w ds.length) := by
  have HA := Lib.hid hA
  have HF := Lib.hid (rfewD_c ds A c w hA hk)
  have eml : maxLen = 9223372036854775807 := rfl
  rw [eml] at hl
  clear hA hk
  go_enter Tryz.func5, Tryz.ntmps5
  go_wp2_with fail
  (with_reducible refine HF.out.mono ?_)
  rintro e w1 ⟨b0, rfl, hb1, hl1⟩
  have HB1 := Lib.hid hb1
  have HL1 := Lib.hid hl1
  clear hb1 HF hl1
  cases b0
  · go_wp2_with fail
    go_ret
    exact ⟨_, rfl, HB1.out, fun h => by cases h⟩
  go_wp2_with fail
  go_loopw [3, 4, 5] (fun v3 v4 v5 wr => RelFl w ds.length v3 v4 v5 wr) (fun _ _ v5 _ => ds.length - (intOf v5).toNat)
  case atStart => exact ⟨0, false, false, Nat.zero_le _, rfl, rfl, rfl, HB1.out⟩
  case round =>
    obtain ⟨k, b1, b2, hkl, rfl, rfl, rfl, hb⟩ := hrel
    have HB := Lib.hid hb
    clear hb HB1
    by_cases hlt : k < ds.length
    · have k0 : (0 : Int) ≤ (k : Int) := by omega
      have k1 : (k : Int) < (ds.length : Int) := by omega
      have hw1 : IntKind.i64.wrap ((k : Int) + 1) = (k : Int) + 1 := IntWalk.i64_in _ (by omega)
      obtain ⟨b, o, csl, rfl, hbl, hrg, hst⟩ := (HA.out.keep HB.out).at_ hlt
      generalize ds[k]'hlt = s at *
      obtain ⟨Am, Ag, Af, Aa, Ab, Ap, Aq, Ar, As, At, cm, cg, cf, ca, cb, cp, cq, cr, cs', ct, rfl, _⟩ := hst
      have y0 : wr.cell? ⟨b, o + k * 23, none⟩ = some (.int .i64 s.rule) := hrg 0 _ rfl
      have HS : Hid (FlS w b (o + k * 23) s.n Ag s.gen.length cg wr.drew) := ⟨HB.out.drew, hrg 4 _ rfl, hrg 5 _ rfl⟩
      clear hrg
      generalize s.gen.length = gl at *
      generalize s.n = sn at *
      obtain ⟨e, he⟩ : ∃ e, IntKind.i64.wrap (sn * (gl : Int)) = e := ⟨_, rfl⟩
      cases b1
      all_goals (cases b2)
      all_goals go_upto_region 8 with fail
      all_goals (refine wp_region_keep (FlS w b (o + k * 23) sn Ag gl cg) (by kernel_rfl) (by kernel_rfl) HS.out ?_)
      all_goals
        repeat (first
          | (apply keep_val rfl
             · intro W hS
               go_simp
               try rfl
             go_simp)
          | (apply keep_gval rfl
             · intro W hS
               obtain ⟨_, z4, z5⟩ := hS
               go_simp
               try rfl
             go_simp)
          | (apply keep_not rfl; go_simp))
        refine wpKeep_nil ?_
        intro w2 hS
        have HS2 := Lib.hid hS.1
        clear hS
        go_wp2_with fail
        go_roundw
        case rel => exact ⟨k + 1, _, _, by omega, rfl, rfl, by go_num, HS2.out⟩
        case measure => simp [intOf]; omega
    · obtain rfl : k = ds.length := by omega
      cases b1 <;> cases b2
      all_goals
        go_wp2_with fail
        go_ret
        exact ⟨_, rfl, HB.out, fun _ => HL1.out (by first | trivial | rfl)⟩
end Go.Proofs.YthiackegnpnmbaaGreat

namespace Go.Proofs.YthiackegnpnmbaaGreat
open Go.RowKit Pln

theorem pow_small {a b q : Nat} (ha : 2 ≤ a) (hb : 1 ≤ b) (h : a ^ b = q) (hq : q = 2 ∨ q = 3) : b = 1 ∧ a = q := by
  by_cases h1 : b = 1
  · subst h1
    exact ⟨rfl, by rw [← h, Nat.pow_one]⟩
  · have h2 : a ^ 2 ≤ a ^ b := Nat.pow_le_pow_right (by omega) (by omega)
    have h3 : 2 ^ 2 ≤ a ^ 2 := Nat.pow_le_pow_left ha 2
    omega
theorem divides_law {s p : StD} (hs : formZ s = 0) (_hp : formZ p = 0) (hd : DivOk s p) {msg : List Nat} (hl : msg.length = (natR s.gen).length) (hm : ∀ x ∈ msg, x < s.p.toNat ^ s.m.toNat) :
    ∃ m' : Nat, s.at_ = [(m' : Int)] ∧ 0 < m' ∧ Dv.wt (cwO s.p.toNat s.m.toNat (mdOf s.m s.mod) s.n.toNat (natR s.gen) msg) % m' = 0 ∧ (TrueOk p → Dv.wt (cwO s.p.toNat s.m.toNat (mdOf s.m s.mod) s.n.toNat (natR s.gen) msg) = 0 ∨ s.low ≤ ((Dv.wt (cwO s.p.toNat s.m.toNat (mdOf s.m s.mod) s.n.toNat (natR s.gen) msg) : Nat) : Int)) := by
  obtain ⟨q, m', hq, hat, hdiv, e1, e2, e3, e4, e5, hlow⟩ := hd
  have hf := form_is hs
  have hft := field_ft hf.field
  have hq23 : q = 2 ∨ q = 3 := by rcases hdiv.1 with ⟨h, _⟩ | ⟨h, _⟩ <;> omega
  obtain ⟨hm1, hpq⟩ := pow_small hft.small.p1 hft.small.m1 hq hq23
  have hmz : s.m = 1 := by omega
  have hmd : mdOf s.m s.mod = [0] := by rw [hmz]; simp [mdOf]
  have hm0 : 0 < m' := by rcases hdiv.1 with ⟨_, h | h⟩ | ⟨_, h⟩ <;> omega
  have hAr : Dv.Ar q (refOps q 1 [0]) := Dv.ar_ref hq23
  have hgr := hf.grid
  rw [hq] at hgr hm
  have hrows : ∀ r ∈ natR s.gen, Dv.Ok q s.n.toNat r := fun r hr => hgr.2 r hr
  have hq0 : 0 < q := by omega
  have key : ∀ ms : List Nat, (∀ x ∈ ms, x < q) → cwO s.p.toNat s.m.toNat (mdOf s.m s.mod) s.n.toNat (natR s.gen) ms = Dv.comb q (List.replicate s.n.toNat 0) ms (natR s.gen) := fun ms hms => by
    unfold cwO
    rw [hmd, hm1, hpq]
    exact Dv.combO_ar hAr _ _ _ hrows (Dv.zeros_ok hq0) hms
  have hwd : Dv.wt (Dv.comb q (List.replicate s.n.toNat 0) msg (natR s.gen)) % m' = 0 := Dv.word_div hdiv hrows hm
  rw [key msg hm]
  refine ⟨m', hat, hm0, hwd, fun ht => ?_⟩
  by_cases hw : Dv.wt (Dv.comb q (List.replicate s.n.toNat 0) msg (natR s.gen)) = 0
  · exact .inl hw
  · refine .inr ?_
    have hfun : wtAt p.p.toNat p.m.toNat (mdOf p.m p.mod) p.n.toNat (natR p.gen) = fun i => Dv.wt (Dv.comb q (List.replicate s.n.toNat 0) (Dv.digsBE q (natR s.gen).length i) (natR s.gen)) := by
      funext i
      unfold wtAt
      rw [← e1, ← e2, ← e3, ← e4, ← e5, hq, key _ (Dv.digsBE_lt hq0 _ _)]
    unfold TrueOk at ht
    rw [hfun, ← e1, ← e2, ← e4, ← e5, hq] at ht
    have hlw := Dv.least_word hq0 (natR s.gen) msg hl hm (s.n.toNat + 1) hw
    rw [natR_len] at hlw
    rw [natR_len] at ht
    have hpl : p.low.toNat ≤ Dv.wt (Dv.comb q (List.replicate s.n.toNat 0) msg (natR s.gen)) := by
      have h1 : p.low ≤ ((Dv.wt (Dv.comb q (List.replicate s.n.toNat 0) msg (natR s.gen)) : Nat) : Int) := Int.le_trans ht (Int.ofNat_le.2 hlw)
      omega
    have hr := Dv.round_up hm0 hwd hpl
    exact Int.le_trans hlow (Int.ofNat_le.2 hr)
end Go.Proofs.YthiackegnpnmbaaGreat

