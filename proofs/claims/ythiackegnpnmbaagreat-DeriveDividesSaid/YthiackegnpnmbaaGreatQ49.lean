/-
  The law's local at the rule of divisible codes. derive.itself at the columns; the law's code of 000 and 111; its two claims.
-/
import Derived.Test.YthiackegnpnmbaaGreatQ48
import Derived.Test.YthiackegnpnmbaaGreatQ25
import Derived.Test.YthiackegnpnmbaaGreatQ47
namespace Go.Proofs.YthiackegnpnmbaaGreat
open Go.RowKit Pln

def ThreeOk : Prop := ∀ W : World, Calls Tryz.prog 10 #[] W fun e w' => e = .returned (.bool true) ∧ Below W.heap.size W w'
theorem form_code {d : StD} (h : formZ d = 0) : codeZ d.p d.m d.mod d.n d.gen = 0 := by
  unfold formZ at h
  split at h
  · rename_i hz
    exact absurd h hz
  · rename_i hz
    exact Classical.byContradiction hz
def RelLr (w : World) (cs : List Value) (r : Int) (v10 v11 : Value) (wr : World) : Prop :=
  SB w w.heap.size cs wr ∧ (v11 = .int .i64 0 ∧ v10 = .bool false ∨ v11 = .int .i64 1 ∧ v10 = .bool (r == 14))
def RelLq (w : World) (cs : List Value) (p : StD) (v12 : Value) (wr : World) : Prop :=
  SB w w.heap.size cs wr ∧ (v12 = .int .i64 0 ∨ v12 = .int .i64 1 ∧ TrueOk p)
def LrS (w : World) (cs : List Value) (br : Nat) (W : World) : Prop := SB w w.heap.size cs W ∧ W.cell? ⟨br, 0, none⟩ = some (.int .i64 14)
def LocPost (w : World) (e : Ending) (w' : World) : Prop := e = .returned (.bool true) ∧ Below w.heap.size w w'
set_option maxHeartbeats 8000000 in
set_option maxRecDepth 100000 in
theorem local_c (h3 : ThreeOk) (ds : List StD) (A : Option Addr) (c : Nat) (i : Int) (zs : List Int) (Az : Option Addr) (cz br cr : Nat) (w : World) (hA : StsAt w w.heap.size A ds) (hk : ∀ d ∈ ds, d.ok) (hl : ds.length ≤ maxLen)
    (hz : IntsAt w w.heap.size Az zs) (hzl : zs.length ≤ maxLen) (hbr : br < w.heap.size) (hr14 : w.cell? ⟨br, 0, none⟩ = some (.int .i64 14)) :
    Calls Tryz.prog 4 #[.slice A ds.length c, .int .i64 i, .slice Az zs.length cz, .slice (some ⟨br, 0, none⟩) 1 cr] w (LocPost w) := by
  have HA := Lib.hid hA
  have HK := Lib.hid hk
  have HZ := Lib.hid hz
  have HR14 := Lib.hid hr14
  have eml : maxLen = 9223372036854775807 := rfl
  rw [eml] at hl hzl
  have HLL := Lib.hid hl
  have H3 := Lib.hid (h3 w)
  clear hA hk hz hr14 h3
  go_enter Tryz.func4, Tryz.ntmps4
  go_wp2_with fail
  (with_reducible refine H3.out.mono ?_)
  rintro e w1 ⟨rfl, hb1⟩
  have HB1 := Lib.hid hb1
  clear hb1 H3
  have HF := Lib.hid (few_c ds A c w1 ((HA.out.keep HB1.out).more' HB1.out.size) HK.out hl)
  go_wp2_with fail
  (with_reducible refine HF.out.mono ?_)
  rintro e w2 ⟨b0, rfl, hb2, hl12⟩
  have HB2 := Lib.hid (HB1.out.trans (hb2.mono HB1.out.size))
  clear hb2 HF HB1
  clear w1
  cases b0
  · go_wp2_with fail
    go_ret
    exact ⟨rfl, HB2.out⟩
  replace hl12 := hl12 rfl
  by_cases i0 : i < 0
  · go_wp2_with fail
    go_ret
    exact ⟨rfl, HB2.out⟩
  by_cases i1 : (ds.length : Int) ≤ i
  · go_wp2_with fail
    go_ret
    exact ⟨rfl, HB2.out⟩
  obtain ⟨k, rfl⟩ : ∃ k : Nat, i = k := ⟨i.toNat, by omega⟩
  have hlt : k < ds.length := by omega
  have k0 : (0 : Int) ≤ (k : Int) := by omega
  have k1 : (k : Int) < (ds.length : Int) := by omega
  obtain ⟨b, o, csl, rfl, hbl, hrg, hst⟩ := (HA.out.keep HB2.out).at_ hlt
  have hso : (ds[k]'hlt).ok := HK.out _ (List.getElem_mem hlt)
  have hsi : ds[k]? = some (ds[k]'hlt) := List.getElem?_eq_getElem hlt
  have HCS : Hid ((ds[k]'hlt).rule = 14 → ∀ W : World, Below w.heap.size w W → Calls Tryz.prog 6 #[.slice (some ⟨b, o, none⟩) ds.length c, .int .i64 k] W (StepPost W ds k)) := fun hr W hW =>
    checkstep_d ds _ c k W ((HA.out.keep hW).more' hW.size) HK.out (by omega) hlt hr
  generalize ds[k]'hlt = s at *
  obtain ⟨Am, Ag, Af, Aa, Ab, Ap, Aq, Ar, As, At, cm, cg, cf, ca, cb, cp, cq, cr, cs', ct, rfl, hcg, h1, h2, h3, h4, h5⟩ := hst
  have HM := Lib.hid (h1.more HB2.out.size)
  have HG := Lib.hid (h2.more HB2.out.size)
  have HFR := Lib.hid (h3.more HB2.out.size)
  have HRB := Lib.hid hrg
  obtain ⟨s1, s2, _⟩ := hso
  rw [eml] at s1 s2
  have HSI := Lib.hid hsi
  have HX := Lib.hid (sb_new w2 (stCells s Am Ag Af Aa Ab Ap Aq Ar As At cm cg cf ca cb cp cq cr cs' ct))
  have HONE : Hid ((stCells s Am Ag Af Aa Ab Ap Aq Ar As At cm cg cf ca cb cp cq cr cs' ct).toArray.all (·.oneCell') = true) := by show _ = _; simp [stCells, Value.oneCell']
  clear hcg h1 h2 h3 h4 h5 hrg hsi
  go_upto_region 6 with (first
    | (refine wpList_load_mid rfl 38 (.tmp 31) rfl b (o + k * 23) rfl (stCells s Am Ag Af Aa Ab Ap Aq Ar As At cm cg cf ca cb cp cq cr cs' ct) _ HRB.out Tryz.underlying38 rfl stepSize ?_)
    | (refine wpList_store_new rfl 38 (.tmp 9) (.tmp 32) rfl w2 _ (stCells s Am Ag Af Aa Ab Ap Aq Ar As At cm cg cf ca cb cp cq cr cs' ct).toArray rfl rfl stepSize rfl HONE.out ?_))
  generalize w2.alloc (.cells (stCells s Am Ag Af Aa Ab Ap Aq Ar As At cm cg cf ca cb cp cq cr cs' ct).toArray 38) = W0 at *
  clear HRB HONE
  have HS0 : Hid (RelLr w2 (stCells s Am Ag Af Aa Ab Ap Aq Ar As At cm cg cf ca cb cp cq cr cs' ct) s.rule (.bool false) (.int .i64 0) W0) := ⟨HX.out, .inl ⟨rfl, rfl⟩⟩
  clear HX
  go_wp2_with fail
  go_loopw [10, 11] (fun v10 v11 wr => RelLr w2 (stCells s Am Ag Af Aa Ab Ap Aq Ar As At cm cg cf ca cb cp cq cr cs' ct) s.rule v10 v11 wr) (fun _ v11 _ => 1 - (intOf v11).toNat)
  case atStart => exact HS0.out
  case round =>
    obtain ⟨hx, hc⟩ := hrel
    have HX := Lib.hid hx
    clear hx HS0
    clear W0
    rcases hc with ⟨rfl, rfl⟩ | ⟨rfl, rfl⟩
    · have HS : Hid (LrS w2 (stCells s Am Ag Af Aa Ab Ap Aq Ar As At cm cg cf ca cb cp cq cr cs' ct) br wr.drew) := ⟨HX.out.grow (Below.refl _ _).drew, (HX.out.2.1.cell (p := ⟨br, 0, none⟩) (Nat.lt_of_lt_of_le hbr HB2.out.size)).trans ((HB2.out.cell (p := ⟨br, 0, none⟩) hbr).trans HR14.out)⟩
      go_upto_region 10 with fail
      refine wp_region_keep (LrS w2 (stCells s Am Ag Af Aa Ab Ap Aq Ar As At cm cg cf ca cb cp cq cr cs' ct) br) (by kernel_rfl) (by kernel_rfl) HS.out ?_
      repeat (first
        | (apply keep_val rfl
           · intro W hS
             go_simp
             try rfl
           go_simp)
        | (apply keep_gval rfl
           · intro W hS
             have z4 := hS.2
             have y0 : W.cell? ⟨w2.heap.size, 0, none⟩ = some (.int .i64 s.rule) := hS.1.cell rfl
             go_simp
             try rfl
           go_simp)
        | (apply keep_not rfl; go_simp))
      refine wpKeep_nil ?_
      intro w3 hS
      have HX3 := Lib.hid hS.1
      clear hS HS
      go_wp2_with fail
      go_roundw
      case rel => exact ⟨HX3.out, .inr ⟨by go_num, rfl⟩⟩
      case measure => simp [intOf]
    · have HB3 := Lib.hid (HB2.out.trans (HX.out.2.1.mono HB2.out.size))
      by_cases h14 : s.rule = 14
      · have r14 : (s.rule == 14) = true := beq_iff_eq.2 h14
        have HC1 := Lib.hid (HCS.out h14 wr HB3.out)
        clear HCS
        rw [r14]
        go_wp2_with fail
        refine HC1.out.mono ?_
        rintro e w4 ⟨z, rfl, hb4, hok⟩
        have HX4 := Lib.hid (HX.out.grow hb4)
        clear hb4 HC1 HX HB3
        clear wr
        have HB4 := Lib.hid (HB2.out.trans (HX4.out.2.1.mono HB2.out.size))
        by_cases hz0 : z = 0
        · subst hz0
          obtain ⟨s', p, j, hs', hjk, hpj, hfj, hal, fs, fp, hdiv⟩ := hok rfl
          rw [HSI.out] at hs'
          obtain rfl : s = s' := by injection hs'
          have hcz := form_code fs
          have HCK : Hid (∀ W : World, Below w2.heap.size w2 W → Calls Tryz.prog 7 #[.agg #[.int .i64 s.p, .int .i64 s.m, .slice Am s.mod.length cm, .int .i64 s.n, .slice Ag s.gen.length cg]] W fun e w' => e = .returned (.int .i64 0) ∧ Below W.heap.size W w') := fun W hW => by
            have := rcodecheck_c s.p s.m s.mod Am cm s.n s.gen Ag cg W ((HM.out.keep hW).more hW.size) s1 ((HG.out.keep hW).more hW.size) s2
            rw [hcz] at this
            exact this
          have HOF : Hid (∀ W : World, Below w2.heap.size w2 W → ∀ hZ : IntsAt W W.heap.size Az zs, Calls Tryz.prog 9 #[.agg #[.int .i64 s.p, .int .i64 s.m, .slice Am s.mod.length cm, .int .i64 s.n, .slice Ag s.gen.length cg], .slice Az zs.length cz] W fun e w' => (∃ (g : Nat) (msg : List Nat), e = .returned (.slice (some ⟨g, 0, none⟩) s.n.toNat s.n.toNat) ∧ msg.length = (natR s.gen).length ∧ (∀ x ∈ msg, x < s.p.toNat ^ s.m.toNat) ∧ Row w' W.heap.size g s.n.toNat (nz (cwO s.p.toNat s.m.toNat (mdOf s.m s.mod) s.n.toNat (natR s.gen) msg)) ∧ (cwO s.p.toNat s.m.toNat (mdOf s.m s.mod) s.n.toNat (natR s.gen) msg).length = s.n.toNat) ∧ Below W.heap.size W w') := fun W hW hZ => by
            obtain ⟨hrc, e1, e2, e3, e4⟩ := code_nat hcz ((HM.out.keep hW).more hW.size) ((HG.out.keep hW).more hW.size)
            have := rof_c hrc cm cg zs Az cz hZ hzl
            rw [e1, e2, e3, e4] at this
            rw [e4]
            exact this
          have hn64 := (code_form hcz).2.2.1
          have HFS := Lib.hid fs
          have HFP := Lib.hid fp
          have HDV := Lib.hid hdiv
          have HPJ := Lib.hid hpj
          have hjl : j < ds.length := by omega
          have hfl : s.frm.length = 1 := by rw [hfj]; rfl
          obtain ⟨bf, of, rfl, hbf, hcf⟩ := HFR.out.at_ (k := 0) (by omega)
          rw [hfj] at hcf
          have HCF : Hid (w2.cell? ⟨bf, of, none⟩ = some (.int .i64 j)) := hcf
          clear hcf hok hs' hfj fs fp hdiv hpj hcz hal
          go_upto_region 13 with fail
          refine wp_region_keep (SB w2 w2.heap.size (stCells s Am Ag (some ⟨bf, of, none⟩) Aa Ab Ap Aq Ar As At cm cg cf ca cb cp cq cr cs' ct)) (by kernel_rfl) (by kernel_rfl) (HX4.out.grow (Below.refl _ _).drew) ?_
          repeat (first
            | (refine keep_load_mid rfl 30 (.tmp 57) rfl w2.heap.size 1 rfl [.int .i64 s.p, .int .i64 s.m, .slice Am s.mod.length cm, .int .i64 s.n, .slice Ag s.gen.length cg] _ (fun W hS => hS.code) Tryz.underlying30 rfl codeSize ?_
               go_simp)
            | (apply keep_val rfl
               · intro W hS
                 go_simp
                 try rfl
               go_simp)
            | (apply keep_gval rfl
               · intro W hS
                 have y0 : W.cell? ⟨w2.heap.size, 0, none⟩ = some (.int .i64 14) := by rw [← h14]; exact hS.cell rfl
                 have y7 : W.cell? ⟨w2.heap.size, 7, none⟩ = some (.slice (some ⟨bf, of, none⟩) 1 cf) := by rw [← hfl]; exact hS.cell rfl
                 go_simp
                 try rfl
               go_simp)
            | (apply keep_call rfl
               · intro W hS
                 go_simp
                 exact ⟨rfl, rfl⟩
               · intro W hS
                 exact (HCK.out W hS.2.1).mono (by rintro e w' ⟨rfl, hb⟩; exact ⟨rfl, hS.grow hb⟩)
               go_simp)
            | (apply keep_gcall rfl
               · intro W hS
                 go_simp
                 exact ⟨rfl, rfl⟩
               · intro W hS
                 exact (rpremises_14 W).mono (by rintro e w' ⟨rfl, rfl⟩; exact ⟨rfl, hS⟩)
               go_simp)
            | (apply keep_not rfl; go_simp))
          refine wpKeep_nil ?_
          intro w5 hS
          have HS5 : Hid (RelLq w2 (stCells s Am Ag (some ⟨bf, of, none⟩) Aa Ab Ap Aq Ar As At cm cg cf ca cb cp cq cr cs' ct) p (.int .i64 0) w5) := ⟨hS, .inl rfl⟩
          clear hS HX4 HB4 HCK
          clear w4
          go_wp2_with fail
          go_loopw [12] (fun v12 wr => RelLq w2 (stCells s Am Ag (some ⟨bf, of, none⟩) Aa Ab Ap Aq Ar As At cm cg cf ca cb cp cq cr cs' ct) p v12 wr) (fun v12 _ => 1 - (intOf v12).toNat)
          case atStart => exact HS5.out
          case round =>
            obtain ⟨hx, hc⟩ := hrel
            have HX := Lib.hid hx
            clear hx HS5
            clear w5
            have y7 : wr.cell? ⟨w2.heap.size, 7, none⟩ = some (.slice (some ⟨bf, of, none⟩) 1 cf) := by rw [← hfl]; exact HX.out.cell rfl
            have HB3 := Lib.hid (HB2.out.trans (HX.out.2.1.mono HB2.out.size))
            rcases hc with rfl | ⟨rfl, htp⟩
            · have y9 : wr.cell? ⟨bf, of, none⟩ = some (.int .i64 j) := (HX.out.2.1.cell (p := ⟨bf, of, none⟩) hbf).trans HCF.out
              obtain ⟨b5, o5, cp5, e5, hb5, hrg5, hst5⟩ := (HA.out.keep HB3.out).at_ hjl
              have hpo : (ds[j]'hjl).ok := HK.out _ (List.getElem_mem hjl)
              have hpe : ds[j]'hjl = p := by
                have := HPJ.out
                rw [List.getElem?_eq_getElem hjl] at this
                injection this
              rw [hpe] at hst5 hpo
              injection e5 with e5
              injection e5 with e6 e7
              subst e6
              subst e7
              have hl5 := hst5.len
              have HRP := Lib.hid hrg5
              have HTR := Lib.hid (true_c p cp5 wr (hst5.more HB3.out.size) hpo (form_code HFP.out))
              obtain ⟨x0, x1, x2, x3, x4, x5, x6, x7, x8, x9, x10, x11, x12, x13, x14, x15, x16, x17, x18, x19, x20, x21, x22, rfl⟩ := cells23 hl5
              have j0 : (0 : Int) ≤ (j : Int) := by omega
              have j1 : (j : Int) < (ds.length : Int) := by omega
              have j2 : ¬ (k : Int) ≤ (j : Int) := by omega
              have j3 : ¬ (j : Int) < 0 := by omega
              clear hrg5 hst5 hpo hpe
              go_wp2_with (refine wpList_load_mid rfl 38 (.tmp 98) rfl b (o + j * 23) rfl [x0, x1, x2, x3, x4, x5, x6, x7, x8, x9, x10, x11, x12, x13, x14, x15, x16, x17, x18, x19, x20, x21, x22] _ HRP.out Tryz.underlying38 rfl stepSize ?_)
              refine HTR.out.mono ?_
              rintro e w6 ⟨bb, rfl, hb6, ht6⟩
              have HX6 := Lib.hid (HX.out.grow hb6)
              have HT6 := Lib.hid ht6
              clear hb6 ht6 HTR HRP y7 y9 HX
              cases bb
              · go_wp2_with fail
                go_ret
                exact ⟨rfl, HB2.out.trans (HX6.out.2.1.mono HB2.out.size)⟩
              · go_wp2_with fail
                go_roundw
                case rel => exact ⟨HX6.out, .inr ⟨by go_num, HT6.out (by first | trivial | rfl)⟩⟩
                case measure => simp [intOf]
            · have HTP := Lib.hid htp
              have HRC : Hid (wr.rangeAt w2.heap.size 1 [.int .i64 s.p, .int .i64 s.m, .slice Am s.mod.length cm, .int .i64 s.n, .slice Ag s.gen.length cg]) := HX.out.code
              have HO1 := Lib.hid (HOF.out wr HX.out.2.1 ((HZ.out.keep HB3.out).more HB3.out.size))
              clear htp
              go_wp2_with (refine wpList_load_mid rfl 30 (.tmp 102) rfl w2.heap.size 1 rfl [.int .i64 s.p, .int .i64 s.m, .slice Am s.mod.length cm, .int .i64 s.n, .slice Ag s.gen.length cg] _ HRC.out Tryz.underlying30 rfl codeSize ?_)
              refine HO1.out.mono ?_
              rintro e w6 ⟨⟨g, msg, rfl, hml, hmq, hrow, hcl⟩, hb6⟩
              have HX6 := Lib.hid (HX.out.grow hb6)
              obtain ⟨m', _, _, _, hfin⟩ := divides_law HFS.out HFP.out HDV.out hml hmq
              have HFIN := Lib.hid (hfin HTP.out)
              have hwl : Dv.wt (cwO s.p.toNat s.m.toNat (mdOf s.m s.mod) s.n.toNat (natR s.gen) msg) ≤ s.n.toNat := by
                have := rwt_le (cwO s.p.toNat s.m.toNat (mdOf s.m s.mod) s.n.toNat (natR s.gen) msg)
                rw [hcl] at this
                exact this
              have HW6 := Lib.hid (weight_c (cwO s.p.toNat s.m.toNat (mdOf s.m s.mod) s.n.toNat (natR s.gen) msg) (some ⟨g, 0, none⟩) s.n.toNat w6 (row_ints hrow) (by omega))
              rw [hcl] at HW6
              clear hb6 hml hmq hrow hcl hfin HO1 HRC HX y7 HOF
              generalize Dv.wt (cwO s.p.toNat s.m.toNat (mdOf s.m s.mod) s.n.toNat (natR s.gen) msg) = wt at *
              go_wp2_with fail
              refine HW6.out.mono ?_
              rintro e w7 ⟨rfl, rfl⟩
              clear HW6
              have y6 : w6.cell? ⟨w2.heap.size, 6, none⟩ = some (.int .i64 s.low) := HX6.out.cell rfl
              by_cases hw0 : wt = 0
              · subst hw0
                go_wp2_with fail
                go_ret
                exact ⟨rfl, HB2.out.trans (HX6.out.2.1.mono HB2.out.size)⟩
              · have hwi : ((wt : Int) == 0) = false := beq_false_of_ne (by omega)
                have hlw : s.low ≤ (wt : Int) := HFIN.out.elim (fun h => absurd h hw0) id
                go_wp2_with fail
                go_ret
                exact ⟨by simp, HB2.out.trans (HX6.out.2.1.mono HB2.out.size)⟩
        · have hz1 : (z != 0) = true := bne_iff_ne.2 hz0
          clear hok
          go_wp2_with fail
          go_ret
          exact ⟨rfl, HB4.out⟩
      · have r14 : (s.rule == 14) = false := beq_false_of_ne h14
        rw [r14]
        clear HCS
        go_wp2_with fail
        go_ret
        exact ⟨rfl, HB3.out⟩
end Go.Proofs.YthiackegnpnmbaaGreat

namespace Go.Proofs.YthiackegnpnmbaaGreat
open Go.RowKit Pln

set_option maxHeartbeats 4000000 in
set_option maxRecDepth 100000 in
theorem itself_1 (G : Nat) (w : World) (hG : RowsAt w w.heap.size (some ⟨G, 0, none⟩) [[1, 1, 1]]) :
    Calls Tryz.prog 28 #[.agg (repC 1 3 G).toArray] w (BPost true w) := by
  have HX := Lib.hid (sb_new w (repC 1 3 G))
  have HG := Lib.hid hG
  clear hG
  go_enter Tryz.func28, Tryz.ntmps28
  go_upto_region 1 with fail
  generalize w.alloc (.cells (repC 1 3 G).toArray 38) = W0 at *
  have y0 : W0.cell? ⟨w.heap.size, 0, none⟩ = some (.int .i64 1) := HX.out.cell rfl
  have y6 : W0.cell? ⟨w.heap.size, 6, none⟩ = some (.int .i64 3) := HX.out.cell rfl
  have y1 : W0.cell? ⟨w.heap.size, 1, none⟩ = some (.int .i64 2) := HX.out.cell rfl
  have y2 : W0.cell? ⟨w.heap.size, 2, none⟩ = some (.int .i64 1) := HX.out.cell rfl
  have y3 : W0.cell? ⟨w.heap.size, 3, none⟩ = some (.slice none 0 0) := HX.out.cell rfl
  have y4 : W0.cell? ⟨w.heap.size, 4, none⟩ = some (.int .i64 3) := HX.out.cell rfl
  have y5 : W0.cell? ⟨w.heap.size, 5, none⟩ = some (.slice (some ⟨G, 0, none⟩) 1 1) := HX.out.cell rfl
  have HC := Lib.hid (columns_rep G W0 ((HG.out.keep HX.out.2.1).more HX.out.2.1.size))
  go_wp2_with fail
  refine HC.out.mono ?_
  rintro e w1 ⟨rfl, hb⟩
  have HB := Lib.hid (HX.out.2.1.trans (hb.mono HX.out.2.1.size))
  clear hb HC HX y0 y1 y2 y3 y4 y5 y6
  go_wp2_with fail
  go_ret
  exact ⟨rfl, HB.out⟩
def RepPost (w : World) (e : Ending) (w' : World) : Prop :=
  ∃ G, e = .returned (.agg #[.int .i64 2, .int .i64 1, .slice none 0 0, .int .i64 3, .slice (some ⟨G, 0, none⟩) 1 1]) ∧ RowsAt w' w'.heap.size (some ⟨G, 0, none⟩) [[1, 1, 1]] ∧ Below w.heap.size w w'
theorem rows_new (w1 : World) : RowsUp ((w1.alloc (.cells #[.int .i64 1, .int .i64 1, .int .i64 1] 3)).alloc (.cells #[.slice (some ⟨w1.heap.size, 0, none⟩) 3 3] 23)) w1.heap.size (some ⟨w1.heap.size + 1, 0, none⟩) [[1, 1, 1]] := fun _ => by
  have h0 : ((w1.alloc (.cells #[.int .i64 1, .int .i64 1, .int .i64 1] 3)).alloc (.cells #[.slice (some ⟨w1.heap.size, 0, none⟩) 3 3] 23)).heap[w1.heap.size]? = some (.cells #[.int .i64 1, .int .i64 1, .int .i64 1] 3 (0, 0)) := (Below.heap_alloc _ _ _ (by simp)).trans (heap_alloc_new _ _)
  have h1 : ((w1.alloc (.cells #[.int .i64 1, .int .i64 1, .int .i64 1] 3)).alloc (.cells #[.slice (some ⟨w1.heap.size, 0, none⟩) 3 3] 23)).heap[w1.heap.size + 1]? = some (.cells #[.slice (some ⟨w1.heap.size, 0, none⟩) 3 3] 23 (0, 0)) := alloc_at (by simp) _
  refine ⟨w1.heap.size + 1, 0, rfl, by omega, by simp, fun i hi => ?_⟩
  obtain rfl : i = 0 := by simpa using hi
  refine ⟨w1.heap.size, 0, 3, cell_of_row _ _ 0 _ _ _ h1, Nat.le_refl _, by simp; omega, fun j hj => ?_⟩
  rw [cell_of_row _ _ _ _ _ _ h0]
  have hj3 : j < 3 := hj
  match j, hj3 with
  | 0, _ => rfl
  | 1, _ => rfl
  | 2, _ => rfl
set_option maxRecDepth 100000 in
theorem repeated_c (w : World) : Calls Tryz.prog 21 #[] w (RepPost w) := by
  have HX := Lib.hid (bx_new w [.int .i64 0, .int .i64 0, .slice none 0 0, .int .i64 0, .slice none 0 0] 30)
  go_enter Tryz.func21, Tryz.ntmps21
  go_upto_region 1 with fail
  generalize w.alloc (.cells #[.int .i64 0, .int .i64 0, .slice none 0 0, .int .i64 0, .slice none 0 0] 30) = w1 at *
  have HB2 : Below w1.heap.size w1 ((w1.alloc (.cells #[.int .i64 1, .int .i64 1, .int .i64 1] 3)).alloc (.cells #[.slice (some ⟨w1.heap.size, 0, none⟩) 3 3] 23)) := ((Below.refl _ _).alloc (Nat.le_refl _) _).alloc (by simp) _
  have HX2 := Lib.hid (HX.out.grow HB2)
  have HR2 := Lib.hid (rows_new w1)
  have hs1 := HX.out.2.2
  clear HB2 HX
  go_wp2_with (refine wpList_store_row rfl 30 (.tmp 0) (.tmp 4) rfl _ w.heap.size 30 #[.int .i64 0, .int .i64 0, .slice none 0 0, .int .i64 0, .slice none 0 0] #[.int .i64 2, .int .i64 1, .slice none 0 0, .int .i64 3, .slice (some ⟨w1.heap.size + 1, 0, none⟩) 1 1] rfl rfl HX2.out.1 codeSize rfl (by simp [Value.oneCell']) ?_)
  have HY : Hid (BX w [.int .i64 2, .int .i64 1, .slice none 0 0, .int .i64 3, .slice (some ⟨w1.heap.size + 1, 0, none⟩) 1 1] 30 (((w1.alloc (.cells #[.int .i64 1, .int .i64 1, .int .i64 1] 3)).alloc (.cells #[.slice (some ⟨w1.heap.size, 0, none⟩) 3 3] 23)).setRow w.heap.size #[.int .i64 2, .int .i64 1, .slice none 0 0, .int .i64 3, .slice (some ⟨w1.heap.size + 1, 0, none⟩) 1 1])) := ⟨setRow_same _ _ _ _ _ HX2.out.1, below_setRow HX2.out.below (Nat.le_refl _) _, by have := HX2.out.2.2; simp; omega⟩
  refine bodyPost_ret (results_cell_row (P := Tryz.prog) rfl _ _ w.heap.size 30 #[.int .i64 2, .int .i64 1, .slice none 0 0, .int .i64 3, .slice (some ⟨w1.heap.size + 1, 0, none⟩) 1 1] (0, 0) _ rfl HY.out.1 Tryz.underlying30 rfl codeSize) rfl ?_
  have hv := HR2.out.of_blocks (w' := ((w1.alloc (.cells #[.int .i64 1, .int .i64 1, .int .i64 1] 3)).alloc (.cells #[.slice (some ⟨w1.heap.size, 0, none⟩) 3 3] 23)).setRow w.heap.size #[.int .i64 2, .int .i64 1, .slice none 0 0, .int .i64 3, .slice (some ⟨w1.heap.size + 1, 0, none⟩) 1 1]) (by simp) fun k hk _ => setRow_other _ w.heap.size k _ (by omega)
  exact ⟨w1.heap.size + 1, rfl, hv.rowsAt, HY.out.below⟩
end Go.Proofs.YthiackegnpnmbaaGreat

