/-
  derive.CheckStep at a step by the rule of divisible codes.
-/
import Derived.Maps.AppendAt
import Derived.Test.YthiackegnpnmbaaGreatQ24
import Derived.Test.YthiackegnpnmbaaGreatQ19
namespace Go.Proofs.YthiackegnpnmbaaGreat
open Go.RowKit Pln

theorem infoStep : (Tryz.prog.info? 38).map (fun i => (i.zero, i.size, i.bytes)) = some (some (.agg #[.int .i64 0, .int .i64 0, .int .i64 0, .slice none 0 0, .int .i64 0, .slice none 0 0, .int .i64 0, .slice none 0 0, .slice none 0 0, .int .i64 0, .int .i64 0, .slice none 0 0, .int .i64 0, .int .i64 0, .int .i64 0, .int .i64 0, .int .i64 0, .slice none 0 0, .slice none 0 0, .slice none 0 0, .slice none 0 0, .int .i64 0, .slice none 0 0]), 23, 344) := by kernel_rfl
theorem append_step (cp : List Value) (hl : cp.length = 23) (h1 : ∀ u ∈ cp, u.oneCell' = true) (nb : Nat) (W : World) (hnb : W.heap[nb]? = some (.cells cp.toArray 38 (0, 0))) :
    ∃ (g c : Nat) (w' : World), (Builtin.append_ #[22, 22] 22 #[.slice none 0 0, .slice (some ⟨nb, 0, none⟩) 1 1]).run Tryz.prog W = .ok (.slice (some ⟨g, 0, none⟩) 1 c) w' ∧ Below W.heap.size W w' ∧ g < w'.heap.size ∧ w'.rangeAt g 0 cp := by
  obtain ⟨i0, hi, hz0, hz1, hz2⟩ := info_parts infoStep
  have hr0 : W.rangeAt nb 0 cp := range_of_row hnb
  obtain ⟨v', w', hrun, hown, hg, _, _⟩ := run_append_own_at (P := Tryz.prog) (w := W) 0 22 22 38 i0 _ 23 344 Tryz.underlying22 hi hz0 hz1 hz2 rfl (by decide) (.slice none 0 0) 0 [] (World.ownsRow_nil _ _ _ _) ⟨nb, 0, none⟩ 1 1 cp hl (fun j u hj => by rw [Addr.add_mid]; exact hr0 j u hj) h1 (by unfold maxLen; omega) (by omega) (by omega)
  obtain ⟨g, cap, rfl, hlo, hlt⟩ := hown.form (by omega)
  refine ⟨g, cap, w', hrun, ⟨hg.os, hg.tape, hg.output, hg.size, fun k hk => hg.block k hk (by simp [Value.ownBlock])⟩, hlt, fun j u hj => ?_⟩
  have := hown.cells (g := g) rfl j u hj
  rw [Addr.add_mid] at this
  exact this
theorem wpList_appD {P : Program} {ops : Array Oper} {rest : List Oper} {o : Oper} {a : Act} {w : World} {Q : Exit → Act → World → Prop} (hgd : o.guard = none) (s x : Operand) (t : TypeId) (ho : o.op = .call { callee := .builtin .append, args := #[s, x], argTypes := #[t, t] }) {v1 v2 v : Value} {w' : World} (hs : a.eval s = v1) (hx : a.eval x = v2)
    (hr : (Builtin.append_ #[t, t] o.type #[v1, v2]).run P w = .ok v w') (h : wpList P ops Q rest (a.put o.dst v) w') : wpList P ops Q (o :: rest) a w :=
  wpList_plain hgd fun K hK => by
    unfold Oper.wp execOp
    simp only [ho, resolve, invoke, builtin, Sem.run_bind, Sem.run_pure, Result.andThen_ok, List.map_toArray, List.map_cons, List.map_nil, hs, hx, hr]
    exact hK _ _ h
theorem cells23 : ∀ {cp : List Value}, cp.length = 23 → ∃ x0 x1 x2 x3 x4 x5 x6 x7 x8 x9 x10 x11 x12 x13 x14 x15 x16 x17 x18 x19 x20 x21 x22 : Value, cp = [x0, x1, x2, x3, x4, x5, x6, x7, x8, x9, x10, x11, x12, x13, x14, x15, x16, x17, x18, x19, x20, x21, x22]
  | [x0, x1, x2, x3, x4, x5, x6, x7, x8, x9, x10, x11, x12, x13, x14, x15, x16, x17, x18, x19, x20, x21, x22], _ => ⟨x0, x1, x2, x3, x4, x5, x6, x7, x8, x9, x10, x11, x12, x13, x14, x15, x16, x17, x18, x19, x20, x21, x22, rfl⟩
/-- What an accepted step shows. -/
def StepOk (ds : List StD) (k : Nat) : Prop :=
  ∃ (s p : StD) (j : Nat), ds[k]? = some s ∧ j < k ∧ ds[j]? = some p ∧ s.frm = [(j : Int)] ∧ s.at_.length = 1 ∧ formZ s = 0 ∧ formZ p = 0 ∧ DivOk s p
def StepPost (w : World) (ds : List StD) (k : Nat) (e : Ending) (w' : World) : Prop :=
  ∃ z, e = .returned (.int .i64 z) ∧ Below w.heap.size w w' ∧ (z = 0 → StepOk ds k)
/-- In the midst of the premises. -/
def RelCs (w : World) (cs : List Value) (ds : List StD) (k : Nat) (s : StD) (v7 v66 : Value) (wr : World) : Prop :=
  SB w w.heap.size cs wr ∧ ((v66 = .int .i64 0 ∧ v7 = .slice none 0 0) ∨
    (v66 = .int .i64 1 ∧ ∃ (g c j : Nat) (p : StD) (cp : List Value), v7 = .slice (some ⟨g, 0, none⟩) 1 c ∧ g < wr.heap.size ∧ wr.rangeAt g 0 cp ∧ StC wr wr.heap.size p cp ∧ j < k ∧ ds[j]? = some p ∧ s.frm = [(j : Int)]))
def RelCt (w : World) (cs cp : List Value) (g : Nat) (p : StD) (v87 : Value) (wr : World) : Prop :=
  SB w w.heap.size cs wr ∧ g < wr.heap.size ∧ wr.rangeAt g 0 cp ∧ StC wr wr.heap.size p cp ∧ (v87 = .int .i64 0 ∨ v87 = .int .i64 1 ∧ formZ p = 0)

set_option maxHeartbeats 8000000 in
set_option maxRecDepth 100000 in
theorem checkstep_d (ds : List StD) (A : Option Addr) (c k : Nat) (w : World) (hA : StsAt w w.heap.size A ds) (hk : ∀ d ∈ ds, d.ok) (hl : ds.length ≤ 1000) (hi : k < ds.length) (hr : (ds[k]'hi).rule = 14) :
    Calls Tryz.prog 6 #[.slice A ds.length c, .int .i64 k] w (StepPost w ds k) := by
  obtain ⟨b, o, csl, rfl, hbl, hrg, hst⟩ := hA.at_ hi
  have hsi : ds[k]? = some (ds[k]'hi) := List.getElem?_eq_getElem hi
  have hso : (ds[k]'hi).ok := hk _ (List.getElem_mem hi)
  generalize ds[k]'hi = s at *
  have HST := Lib.hid hst
  obtain ⟨Am, Ag, Af, Aa, Ab, Ap, Aq, Ar, As, At, cm, cg, cf, ca, cb, cp1, cq, cr, cs', ct, rfl, hcg, h1, h2, h3, h4, h5⟩ := hst
  have HFR := Lib.hid h3
  obtain ⟨i0, hii, hz0, hz1, hz2⟩ := info_parts infoStep
  have HI := Lib.hid hii
  have HZ0 := Lib.hid hz0
  have HZ1 := Lib.hid hz1
  clear hcg h1 h2 h3 h4 h5 hii hz0 hz1 hz2
  have HA := Lib.hid hA
  have HK := Lib.hid hk
  have HSI := Lib.hid hsi
  have HSO := Lib.hid hso
  have HR14 := Lib.hid hr
  have HRB := Lib.hid hrg
  have HX := Lib.hid (sb_new w (stCells s Am Ag Af Aa Ab Ap Aq Ar As At cm cg cf ca cb cp1 cq cr cs' ct))
  have k0 : ¬ (k : Int) < 0 := by omega
  have k1 : ¬ (ds.length : Int) ≤ (k : Int) := by omega
  have k2 : ¬ (4096 : Int) < (ds.length : Int) := by omega
  have k3 : (0 : Int) ≤ (k : Int) := by omega
  have k4 : (k : Int) < (ds.length : Int) := by omega
  clear hA hk hsi hso hr hrg
  go_enter Tryz.func6, Tryz.ntmps6
  go_upto_region 6 with (first
    | (refine wpList_load_mid rfl 38 (.tmp 25) rfl b (o + k * 23) rfl (stCells s Am Ag Af Aa Ab Ap Aq Ar As At cm cg cf ca cb cp1 cq cr cs' ct) _ HRB.out Tryz.underlying38 rfl stepSize ?_)
    | (refine wpList_store_new rfl 38 (.tmp 5) (.tmp 26) rfl w _ (stCells s Am Ag Af Aa Ab Ap Aq Ar As At cm cg cf ca cb cp1 cq cr cs' ct).toArray rfl rfl stepSize rfl (by simp [stCells, Value.oneCell']) ?_))
  generalize w.alloc (.cells (stCells s Am Ag Af Aa Ab Ap Aq Ar As At cm cg cf ca cb cp1 cq cr cs' ct).toArray 38) = W0 at *
  have HRG := Lib.hid HX.out.range
  have HC := Lib.hid (formed_g s (stCells s Am Ag Af Aa Ab Ap Aq Ar As At cm cg cf ca cb cp1 cq cr cs' ct) W0 (HST.out.lift HX.out.2.1) HSO.out)
  go_wp2_with (refine wpList_load_mid rfl 38 (.tmp 5) rfl w.heap.size 0 rfl (stCells s Am Ag Af Aa Ab Ap Aq Ar As At cm cg cf ca cb cp1 cq cr cs' ct) _ HRG.out Tryz.underlying38 rfl stepSize ?_)
  refine HC.out.mono ?_
  rintro e w1 ⟨rfl, hb1⟩
  have HX1 := Lib.hid (HX.out.grow hb1)
  clear hb1 HX HC HRG HRB
  by_cases hf0 : formZ s = 0
  · have HF0 := Lib.hid hf0
    rw [hf0]
    clear hf0
    have y0 : w1.cell? ⟨w.heap.size, 0, none⟩ = some (.int .i64 14) := by rw [← HR14.out]; exact HX1.out.cell rfl
    by_cases hfl : s.frm.length = 1
    · have efl : ((s.frm.length : Int) != 1) = false := by simp [hfl]
      by_cases hal : s.at_.length = 1
      · have eal : ((s.at_.length : Int) != 1) = false := by simp [hal]
        have HFL := Lib.hid hfl
        have HAL := Lib.hid hal
        clear hfl hal
        go_upto_region 11 with fail
        refine wp_region_keep (SB w w.heap.size (stCells s Am Ag Af Aa Ab Ap Aq Ar As At cm cg cf ca cb cp1 cq cr cs' ct)) (by kernel_rfl) (by kernel_rfl) (HX1.out.grow (Below.refl _ _).drew) ?_
        repeat (first
            | (apply keep_val rfl
               · intro W hS
                 have y0 : W.cell? ⟨w.heap.size, 0, none⟩ = some (.int .i64 14) := by rw [← HR14.out]; exact hS.cell rfl
                 have y7 : W.cell? ⟨w.heap.size, 7, none⟩ = some (.slice Af s.frm.length cf) := hS.cell rfl
                 have y8 : W.cell? ⟨w.heap.size, 8, none⟩ = some (.slice Aa s.at_.length ca) := hS.cell rfl
                 go_simp
                 rfl
               go_simp)
            | (apply keep_gval rfl
               · intro W hS
                 have y0 : W.cell? ⟨w.heap.size, 0, none⟩ = some (.int .i64 14) := by rw [← HR14.out]; exact hS.cell rfl
                 have y7 : W.cell? ⟨w.heap.size, 7, none⟩ = some (.slice Af s.frm.length cf) := hS.cell rfl
                 have y8 : W.cell? ⟨w.heap.size, 8, none⟩ = some (.slice Aa s.at_.length ca) := hS.cell rfl
                 go_simp
                 rfl
               go_simp)
            | (apply keep_call rfl
               · intro W hS
                 go_simp
                 exact ⟨rfl, rfl⟩
               · intro W hS
                 exact (premises_14 W).mono (by rintro e w' ⟨rfl, rfl⟩; exact ⟨rfl, hS⟩)
               go_simp)
            | (apply keep_not rfl; go_simp))
        refine wpKeep_nil ?_
        intro w2 hS
        have HX2 := Lib.hid hS
        clear hS HX1
        clear y0 efl eal
        obtain ⟨a, hfa⟩ : ∃ a, s.frm = [a] := by
          have := HFL.out
          match hm : s.frm, this with
          | [a], _ => exact ⟨a, rfl⟩
        have HFA := Lib.hid hfa
        have y7 : w2.cell? ⟨w.heap.size, 7, none⟩ = some (.slice Af 1 cf) := by
          have := HX2.out.cell (k := 7) rfl
          rw [HFL.out] at this
          exact this
        obtain ⟨bf, of, hAf, hbf, hcf⟩ := HFR.out.at_ (k := 0) (by rw [HFL.out]; decide)
        rw [hfa] at hcf
        have HCF : Hid (w.cell? ⟨bf, of, none⟩ = some (.int .i64 a)) := hcf
        subst hAf
        clear hcf hfa
        go_upto_region 15 with fail
        go_loopw [7, 66] (fun v7 v66 wr => RelCs w (stCells s Am Ag (some ⟨bf, of, none⟩) Aa Ab Ap Aq Ar As At cm cg cf ca cb cp1 cq cr cs' ct) ds k s v7 v66 wr) (fun _ v66 _ => 1 - (intOf v66).toNat)
        case atStart => exact ⟨HX2.out, .inl ⟨rfl, rfl⟩⟩
        case round =>
          obtain ⟨hsb, hc⟩ := hrel
          have HX3 := Lib.hid hsb
          clear hsb HX2 y7
          rcases hc with ⟨rfl, rfl⟩ | ⟨rfl, g, c2, j, p, cp, rfl, hg, hrg, hst, hjk, hpj, hfj⟩
          · have y9 : wr.cell? ⟨bf, of, none⟩ = some (.int .i64 a) := (HX3.out.2.1.cell (p := ⟨bf, of, none⟩) hbf).trans HCF.out
            by_cases n0 : a < 0
            · go_wp2_with fail
              go_ret
              exact ⟨_, rfl, HX3.out.2.1, fun h => by cases h⟩
            · by_cases n1 : (k : Int) ≤ a
              · go_wp2_with fail
                go_ret
                exact ⟨_, rfl, HX3.out.2.1, fun h => by cases h⟩
              · obtain ⟨j, rfl⟩ : ∃ j : Nat, a = j := ⟨a.toNat, by omega⟩
                have hjk : j < k := by omega
                have hjl : j < ds.length := by omega
                obtain ⟨b5, o5, cp, e5, hb5, hrg5, hst5⟩ := (HA.out.keep HX3.out.2.1).at_ hjl
                have hpj : ds[j]? = some (ds[j]'hjl) := List.getElem?_eq_getElem hjl
                generalize ds[j]'hjl = p at *
                injection e5 with e5
                injection e5 with e6 e7
                subst e6
                subst e7
                have HSP := Lib.hid hst5
                have hcl := hst5.len
                have hco := hst5.one
                have HRP := Lib.hid hrg5
                obtain ⟨x0, x1, x2, x3, x4, x5, x6, x7, x8, x9, x10, x11, x12, x13, x14, x15, x16, x17, x18, x19, x20, x21, x22, rfl⟩ := cells23 hcl
                obtain ⟨g, c2, w4, hrun, hb4, hg4, hrg4⟩ := append_step [x0, x1, x2, x3, x4, x5, x6, x7, x8, x9, x10, x11, x12, x13, x14, x15, x16, x17, x18, x19, x20, x21, x22] hcl hco wr.heap.size (wr.alloc (.cells #[x0, x1, x2, x3, x4, x5, x6, x7, x8, x9, x10, x11, x12, x13, x14, x15, x16, x17, x18, x19, x20, x21, x22] 38)) (heap_alloc_new _ _)
                have HRUN := Lib.hid hrun
                have hba : Below wr.heap.size wr (wr.alloc (.cells #[x0, x1, x2, x3, x4, x5, x6, x7, x8, x9, x10, x11, x12, x13, x14, x15, x16, x17, x18, x19, x20, x21, x22] 38)) := (Below.refl _ _).alloc (Nat.le_refl _) _
                have HB4 : Hid (Below wr.heap.size wr w4) := hba.trans (hb4.mono hba.size)
                have HX4 := Lib.hid (HX3.out.grow HB4.out)
                have HP4 : Hid (StC w4 w4.heap.size p [x0, x1, x2, x3, x4, x5, x6, x7, x8, x9, x10, x11, x12, x13, x14, x15, x16, x17, x18, x19, x20, x21, x22]) := (HSP.out.more HX3.out.2.1.size).lift HB4.out
                have HG4 := Lib.hid hrg4
                have HPJ := Lib.hid hpj
                have j0 : (0 : Int) ≤ (j : Int) := by omega
                have j1 : (j : Int) < (ds.length : Int) := by omega
                have j2 : ¬ (k : Int) ≤ (j : Int) := by omega
                have j3 : ¬ (j : Int) < 0 := by omega
                clear hrg5 hrun hba hb4 hrg4 hpj HSP hcl hco
                go_wp2_with (first
                  | (refine wpList_load_mid rfl 38 (.tmp 80) rfl b (o + j * 23) rfl [x0, x1, x2, x3, x4, x5, x6, x7, x8, x9, x10, x11, x12, x13, x14, x15, x16, x17, x18, x19, x20, x21, x22] _ HRP.out Tryz.underlying38 rfl stepSize ?_)
                  | (at_builtin; refine wpList_appD (v1 := .slice none 0 0) (v2 := .slice (some ⟨wr.heap.size, 0, none⟩) 1 1) (v := .slice (some ⟨g, 0, none⟩) 1 c2) (w' := w4) rfl (.tmp 77) (.tmp 82) 22 rfl rfl rfl HRUN.out ?_))
                go_roundw
                case rel => exact ⟨HX4.out, .inr ⟨by go_num, g, c2, j, p, _, rfl, hg4, HG4.out, HP4.out, hjk, HPJ.out, HFA.out⟩⟩
                case measure => simp [intOf]
          · have HGR := Lib.hid hrg
            have HPC := Lib.hid hst
            have HPJ := Lib.hid hpj
            have HFJ := Lib.hid hfj
            have hpo : p.ok := HK.out _ (List.mem_of_getElem? hpj)
            have HPO := Lib.hid hpo
            have hone : ∀ u ∈ cp, u.oneCell' = true := hst.one
            clear hrg hpj hfj hpo
            obtain ⟨x0, x1, x2, x3, x4, x5, x6, x7, x8, x9, x10, x11, x12, x13, x14, x15, x16, x17, x18, x19, x20, x21, x22, rfl⟩ := cells23 hst.len
            have HONE : Hid (#[x0, x1, x2, x3, x4, x5, x6, x7, x8, x9, x10, x11, x12, x13, x14, x15, x16, x17, x18, x19, x20, x21, x22].all (·.oneCell') = true) := by
              show _ = _
              rw [Array.all_eq_true']
              exact fun u hu => hone u (by simpa using hu)
            clear hone
            go_upto_region 22 with fail
            go_loopw [87] (fun v87 wr => RelCt w (stCells s Am Ag (some ⟨bf, of, none⟩) Aa Ab Ap Aq Ar As At cm cg cf ca cb cp1 cq cr cs' ct) [x0, x1, x2, x3, x4, x5, x6, x7, x8, x9, x10, x11, x12, x13, x14, x15, x16, x17, x18, x19, x20, x21, x22] g p v87 wr) (fun v87 _ => 1 - (intOf v87).toNat)
            case atStart => exact ⟨HX3.out, hg, HGR.out, HPC.out, .inl rfl⟩
            case round =>
              obtain ⟨hsb, hg5, hrg5, hst5, hc⟩ := hrel
              have HX5 := Lib.hid hsb
              have HG5 := Lib.hid hrg5
              have HP5 := Lib.hid hst5
              clear hsb hrg5 hst5 HX3 HGR HPC
              rcases hc with rfl | ⟨rfl, hfp⟩
              · have HBA : Hid (Below wr.heap.size wr (wr.alloc (.cells #[x0, x1, x2, x3, x4, x5, x6, x7, x8, x9, x10, x11, x12, x13, x14, x15, x16, x17, x18, x19, x20, x21, x22] 38))) := (Below.refl _ _).alloc (Nat.le_refl _) _
                have HX6 := Lib.hid (HX5.out.grow HBA.out)
                have HP6 : Hid (StC (wr.alloc (.cells #[x0, x1, x2, x3, x4, x5, x6, x7, x8, x9, x10, x11, x12, x13, x14, x15, x16, x17, x18, x19, x20, x21, x22] 38)) (wr.alloc (.cells #[x0, x1, x2, x3, x4, x5, x6, x7, x8, x9, x10, x11, x12, x13, x14, x15, x16, x17, x18, x19, x20, x21, x22] 38)).heap.size p [x0, x1, x2, x3, x4, x5, x6, x7, x8, x9, x10, x11, x12, x13, x14, x15, x16, x17, x18, x19, x20, x21, x22]) := HP5.out.lift HBA.out
                have HG6 : Hid ((wr.alloc (.cells #[x0, x1, x2, x3, x4, x5, x6, x7, x8, x9, x10, x11, x12, x13, x14, x15, x16, x17, x18, x19, x20, x21, x22] 38)).rangeAt g 0 [x0, x1, x2, x3, x4, x5, x6, x7, x8, x9, x10, x11, x12, x13, x14, x15, x16, x17, x18, x19, x20, x21, x22]) := range_keep_v HG5.out (HBA.out.block g hg5)
                have HN6 : Hid ((wr.alloc (.cells #[x0, x1, x2, x3, x4, x5, x6, x7, x8, x9, x10, x11, x12, x13, x14, x15, x16, x17, x18, x19, x20, x21, x22] 38)).rangeAt wr.heap.size 0 [x0, x1, x2, x3, x4, x5, x6, x7, x8, x9, x10, x11, x12, x13, x14, x15, x16, x17, x18, x19, x20, x21, x22]) := range_of_row (heap_alloc_new _ _)
                have hg6 : g < (wr.alloc (.cells #[x0, x1, x2, x3, x4, x5, x6, x7, x8, x9, x10, x11, x12, x13, x14, x15, x16, x17, x18, x19, x20, x21, x22] 38)).heap.size := by simp; omega
                have HC6 := Lib.hid (formed_g p [x0, x1, x2, x3, x4, x5, x6, x7, x8, x9, x10, x11, x12, x13, x14, x15, x16, x17, x18, x19, x20, x21, x22] _ HP6.out HPO.out)
                clear HBA
                go_upto_region 24 with (first
                  | (refine wpList_load_mid rfl 38 (.tmp 89) rfl g 0 rfl [x0, x1, x2, x3, x4, x5, x6, x7, x8, x9, x10, x11, x12, x13, x14, x15, x16, x17, x18, x19, x20, x21, x22] _ HG5.out Tryz.underlying38 rfl stepSize ?_)
                  | (refine wpList_store_new rfl 38 (.tmp 11) (.tmp 90) rfl wr _ #[x0, x1, x2, x3, x4, x5, x6, x7, x8, x9, x10, x11, x12, x13, x14, x15, x16, x17, x18, x19, x20, x21, x22] rfl rfl stepSize rfl HONE.out ?_))
                generalize (wr.alloc (.cells #[x0, x1, x2, x3, x4, x5, x6, x7, x8, x9, x10, x11, x12, x13, x14, x15, x16, x17, x18, x19, x20, x21, x22] 38)) = W6 at *
                go_wp2_with (refine wpList_load_mid rfl 38 (.tmp 11) rfl wr.heap.size 0 rfl [x0, x1, x2, x3, x4, x5, x6, x7, x8, x9, x10, x11, x12, x13, x14, x15, x16, x17, x18, x19, x20, x21, x22] _ HN6.out Tryz.underlying38 rfl stepSize ?_)
                refine HC6.out.mono ?_
                rintro e w7 ⟨rfl, hb7⟩
                have HX7 := Lib.hid (HX6.out.grow hb7)
                have HP7 := Lib.hid (HP6.out.lift hb7)
                have HG7 := Lib.hid (range_keep_v HG6.out (hb7.block g hg6))
                have hg7 : g < w7.heap.size := Nat.lt_of_lt_of_le hg6 hb7.size
                clear hb7 HC6 HX5 HG5 HP5 HX6 HP6 HG6 HN6
                by_cases hz : formZ p = 0
                · have HZP := Lib.hid hz
                  rw [hz]
                  clear hz
                  go_wp2_with fail
                  go_roundw
                  case rel => exact ⟨HX7.out, hg7, HG7.out, HP7.out, .inr ⟨by go_num, HZP.out⟩⟩
                  case measure => simp [intOf]
                · have hz1 : (formZ p != 0) = true := bne_iff_ne.2 hz
                  generalize formZ p = zp at *
                  go_wp2_with fail
                  go_ret
                  exact ⟨_, rfl, HX7.out.2.1, fun h => by cases h⟩
              · have HR5 := Lib.hid HX5.out.range
                have HFO := Lib.hid (follows_d s p (stCells s Am Ag (some ⟨bf, of, none⟩) Aa Ab Ap Aq Ar As At cm cg cf ca cb cp1 cq cr cs' ct) [x0, x1, x2, x3, x4, x5, x6, x7, x8, x9, x10, x11, x12, x13, x14, x15, x16, x17, x18, x19, x20, x21, x22] g c2 wr (HST.out.lift HX5.out.2.1) HP5.out HG5.out hg5 HSO.out HPO.out HR14.out HAL.out HF0.out hfp)
                have HFP := Lib.hid hfp
                clear hfp
                go_wp2_with (refine wpList_load_mid rfl 38 (.tmp 5) rfl w.heap.size 0 rfl (stCells s Am Ag (some ⟨bf, of, none⟩) Aa Ab Ap Aq Ar As At cm cg cf ca cb cp1 cq cr cs' ct) _ HR5.out Tryz.underlying38 rfl stepSize ?_)
                refine HFO.out.mono ?_
                rintro e w7 ⟨bb, rfl, hb7, hd⟩
                have HX7 := Lib.hid (HX5.out.grow hb7)
                have HD := Lib.hid hd
                clear hb7 hd HFO HR5
                cases bb
                · go_wp2_with fail
                  go_ret
                  exact ⟨_, rfl, HX7.out.2.1, fun h => by cases h⟩
                · have HOK : Hid (StepOk ds k) := ⟨s, p, j, HSI.out, hjk, HPJ.out, HFJ.out, HAL.out, HF0.out, HFP.out, HD.out (by simp)⟩
                  go_wp2_with fail
                  go_ret
                  exact ⟨_, rfl, HX7.out.2.1, fun _ => HOK.out⟩
      · have eal : ((s.at_.length : Int) != 1) = true := bne_iff_ne.2 (by omega)
        clear hfl hal
        go_upto_region 11 with fail
        refine wp_region_keep (SB w w.heap.size (stCells s Am Ag Af Aa Ab Ap Aq Ar As At cm cg cf ca cb cp1 cq cr cs' ct)) (by kernel_rfl) (by kernel_rfl) (HX1.out.grow (Below.refl _ _).drew) ?_
        repeat (first
            | (apply keep_val rfl
               · intro W hS
                 have y0 : W.cell? ⟨w.heap.size, 0, none⟩ = some (.int .i64 14) := by rw [← HR14.out]; exact hS.cell rfl
                 have y7 : W.cell? ⟨w.heap.size, 7, none⟩ = some (.slice Af s.frm.length cf) := hS.cell rfl
                 have y8 : W.cell? ⟨w.heap.size, 8, none⟩ = some (.slice Aa s.at_.length ca) := hS.cell rfl
                 go_simp
                 rfl
               go_simp)
            | (apply keep_gval rfl
               · intro W hS
                 have y0 : W.cell? ⟨w.heap.size, 0, none⟩ = some (.int .i64 14) := by rw [← HR14.out]; exact hS.cell rfl
                 have y7 : W.cell? ⟨w.heap.size, 7, none⟩ = some (.slice Af s.frm.length cf) := hS.cell rfl
                 have y8 : W.cell? ⟨w.heap.size, 8, none⟩ = some (.slice Aa s.at_.length ca) := hS.cell rfl
                 go_simp
                 rfl
               go_simp)
            | (apply keep_call rfl
               · intro W hS
                 go_simp
                 exact ⟨rfl, rfl⟩
               · intro W hS
                 exact (premises_14 W).mono (by rintro e w' ⟨rfl, rfl⟩; exact ⟨rfl, hS⟩)
               go_simp)
            | (apply keep_not rfl; go_simp))
        refine wpKeep_nil ?_
        intro w2 hS
        have HX2 := Lib.hid hS
        clear hS HX1
        clear y0
        go_wp2_with fail
        go_ret
        exact ⟨_, rfl, HX2.out.2.1, fun h => by cases h⟩
    · have efl : ((s.frm.length : Int) != 1) = true := bne_iff_ne.2 (by omega)
      clear hfl
      go_upto_region 11 with fail
      refine wp_region_keep (SB w w.heap.size (stCells s Am Ag Af Aa Ab Ap Aq Ar As At cm cg cf ca cb cp1 cq cr cs' ct)) (by kernel_rfl) (by kernel_rfl) (HX1.out.grow (Below.refl _ _).drew) ?_
      repeat (first
          | (apply keep_val rfl
             · intro W hS
               have y0 : W.cell? ⟨w.heap.size, 0, none⟩ = some (.int .i64 14) := by rw [← HR14.out]; exact hS.cell rfl
               have y7 : W.cell? ⟨w.heap.size, 7, none⟩ = some (.slice Af s.frm.length cf) := hS.cell rfl
               have y8 : W.cell? ⟨w.heap.size, 8, none⟩ = some (.slice Aa s.at_.length ca) := hS.cell rfl
               go_simp
               rfl
             go_simp)
          | (apply keep_gval rfl
             · intro W hS
               have y0 : W.cell? ⟨w.heap.size, 0, none⟩ = some (.int .i64 14) := by rw [← HR14.out]; exact hS.cell rfl
               have y7 : W.cell? ⟨w.heap.size, 7, none⟩ = some (.slice Af s.frm.length cf) := hS.cell rfl
               have y8 : W.cell? ⟨w.heap.size, 8, none⟩ = some (.slice Aa s.at_.length ca) := hS.cell rfl
               go_simp
               rfl
             go_simp)
          | (apply keep_call rfl
             · intro W hS
               go_simp
               exact ⟨rfl, rfl⟩
             · intro W hS
               exact (premises_14 W).mono (by rintro e w' ⟨rfl, rfl⟩; exact ⟨rfl, hS⟩)
             go_simp)
          | (apply keep_not rfl; go_simp))
      refine wpKeep_nil ?_
      intro w2 hS
      have HX2 := Lib.hid hS
      clear hS HX1
      clear y0
      go_wp2_with fail
      go_ret
      exact ⟨_, rfl, HX2.out.2.1, fun h => by cases h⟩
  · have hne : (formZ s != 0) = true := bne_iff_ne.2 hf0
    generalize formZ s = z at *
    go_wp2_with fail
    go_ret
    exact ⟨_, rfl, HX1.out.2.1, fun h => absurd h hf0⟩
end Go.Proofs.YthiackegnpnmbaaGreat

