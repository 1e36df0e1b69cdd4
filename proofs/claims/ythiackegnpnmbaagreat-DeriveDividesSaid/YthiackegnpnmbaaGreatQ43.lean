/-
  The reference: Least. The reference: True; a code that is one.
-/
import Derived.Test.YthiackegnpnmbaaGreatQ42
import Derived.Test.YthiackegnpnmbaaGreatQ24
import Derived.Test.YthiackegnpnmbaaGreatQ37
namespace Go.Proofs.YthiackegnpnmbaaGreat
open Go.RowKit Pln

/-- The weight of the word with an index. -/
def wtAt (p m : Nat) (md : List Nat) (cols : Nat) (rows : List (List Nat)) (i : Nat) : Nat := Dv.wt (cwO p m md cols rows (Dv.digsBE (p ^ m) rows.length i))
def RelLe (w : World) (cs : List Value) (f : Nat → Nat) (nn N : Nat) (v5 v6 : Value) (wr : World) : Prop :=
  ∃ (i out : Nat), 1 ≤ i ∧ (i ≤ nn ∨ i = 1) ∧ v6 = .int .i64 i ∧ v5 = .int .i64 out ∧ out ≤ N ∧ Dv.leastGo f (nn - i) i out = Dv.leastGo f (nn - 1) 1 N ∧ BX w cs 30 wr
theorem least_step {f : Nat → Nat} {nn i out r : Nat} (hi : i < nn) (h : Dv.leastGo f (nn - i) i out = r) : Dv.leastGo f (nn - (i + 1)) (i + 1) (min out (f i)) = r := by
  have e : nn - i = (nn - (i + 1)) + 1 := by omega
  rw [e] at h
  exact h
set_option maxHeartbeats 1000000 in
set_option maxRecDepth 100000 in
theorem least_c {p m : Nat} {md : List Nat} {A : Option Addr} {n cols : Nat} {rows : List (List Nat)} {Ah : Option Addr} {w : World} (h : RCode p m md A n cols rows Ah w) (c ch nn : Nat) (hnn : nn ≤ 65536) :
    Calls Tryz.prog 23 #[.agg #[.int .i64 p, .int .i64 m, .slice A n c, .int .i64 cols, .slice Ah rows.length ch], .int .i64 nn] w fun e w' => e = .returned (.int .i64 ((Dv.leastGo (wtAt p m md cols rows) (nn - 1) 1 (cols + 1) : Nat) : Int)) ∧ Below w.heap.size w w' := by
  have HX := Lib.hid (bx_new w [.int .i64 (p : Int), .int .i64 (m : Int), .slice A n c, .int .i64 (cols : Int), .slice Ah rows.length ch] 30)
  have hc2 := h.n2
  have HAT : Hid (∀ (i : Nat) (W : World), i < nn → Below w.heap.size w W → Calls Tryz.prog 42 #[.agg #[.int .i64 p, .int .i64 m, .slice A n c, .int .i64 cols, .slice Ah rows.length ch], .int .i64 i] W fun e w' => (∃ g, e = .returned (.slice (some ⟨g, 0, none⟩) cols cols) ∧ Row w' W.heap.size g cols (nz (cwO p m md cols rows (Dv.digsBE (p ^ m) rows.length i))) ∧ (cwO p m md cols rows (Dv.digsBE (p ^ m) rows.length i)).length = cols) ∧ Below W.heap.size W w') := fun i W hi hW => at_c (h.lift hW) c ch i (by omega)
  have HWT : Hid (∀ (i g : Nat) (W : World), (cwO p m md cols rows (Dv.digsBE (p ^ m) rows.length i)).length = cols → IntsAt W W.heap.size (some ⟨g, 0, none⟩) (nz (cwO p m md cols rows (Dv.digsBE (p ^ m) rows.length i))) → Calls Tryz.prog 8 #[.slice (some ⟨g, 0, none⟩) cols cols] W fun e w' => e = .returned (.int .i64 ((wtAt p m md cols rows i : Nat) : Int)) ∧ W = w') := fun i g W hl hi => by
    have := weight_c (cwO p m md cols rows (Dv.digsBE (p ^ m) rows.length i)) (some ⟨g, 0, none⟩) cols W hi (by omega)
    rw [hl] at this
    exact this
  have HWL : Hid (∀ i, (cwO p m md cols rows (Dv.digsBE (p ^ m) rows.length i)).length = cols → wtAt p m md cols rows i ≤ cols) := fun i hl => by
    have := rwt_le (cwO p m md cols rows (Dv.digsBE (p ^ m) rows.length i))
    rw [hl] at this
    exact this
  clear h
  generalize wtAt p m md cols rows = f at *
  generalize (fun i => cwO p m md cols rows (Dv.digsBE (p ^ m) rows.length i)) = cw at *
  generalize rows.length = k at *
  go_enter Tryz.func23, Tryz.ntmps23
  go_upto_region 1 with fail
  generalize w.alloc (.cells #[.int .i64 (p : Int), .int .i64 (m : Int), .slice A n c, .int .i64 (cols : Int), .slice Ah k ch] 30) = W0 at *
  have c3 : W0.cell? ⟨w.heap.size, 3, none⟩ = some (.int .i64 (cols : Int)) := HX.out.cell rfl
  have hwc : IntKind.i64.wrap ((cols : Int) + 1) = ((cols + 1 : Nat) : Int) := by rw [IntWalk.i64_in _ (by omega)]; rfl
  have HS0 : Hid (RelLe w [.int .i64 (p : Int), .int .i64 (m : Int), .slice A n c, .int .i64 (cols : Int), .slice Ah k ch] f nn (cols + 1) (.int .i64 ((cols + 1 : Nat) : Int)) (.int .i64 1) W0) := ⟨1, cols + 1, Nat.le_refl _, .inr rfl, rfl, rfl, Nat.le_refl _, rfl, HX.out⟩
  go_wp2_with fail
  go_loopw [5, 6] (fun v5 v6 wr => RelLe w [.int .i64 (p : Int), .int .i64 (m : Int), .slice A n c, .int .i64 (cols : Int), .slice Ah k ch] f nn (cols + 1) v5 v6 wr) (fun _ v6 _ => nn - (intOf v6).toNat)
  case atStart => exact HS0.out
  case round =>
    obtain ⟨i, out, hi1, hi2, rfl, rfl, hout, hlg, hx⟩ := hrel
    have HX2 := Lib.hid hx
    have HLG := Lib.hid hlg
    clear hx hlg HS0 HX hwc c3
    by_cases hlt : i < nn
    · have k1 : (i : Int) < (nn : Int) := by omega
      have hw1 : IntKind.i64.wrap ((i : Int) + 1) = (i : Int) + 1 := IntWalk.i64_in _ (by omega)
      have HRG := Lib.hid HX2.out.range
      have HA1 := Lib.hid (HAT.out i wr hlt HX2.out.below)
      have HST := Lib.hid (least_step hlt HLG.out)
      go_wp2_with (refine wpList_load_mid rfl 30 (.tmp 2) rfl w.heap.size 0 rfl [.int .i64 (p : Int), .int .i64 (m : Int), .slice A n c, .int .i64 (cols : Int), .slice Ah k ch] _ HRG.out Tryz.underlying30 rfl codeSize ?_)
      refine HA1.out.mono ?_
      rintro e w3 ⟨⟨g3, rfl, hr3, hl3⟩, hb3⟩
      have HX3 := Lib.hid (HX2.out.grow hb3)
      have HW3 := Lib.hid (HWT.out i g3 w3 hl3 (row_ints hr3))
      have hfl := HWL.out i hl3
      clear hb3 hr3 hl3 HA1 HRG HX2
      generalize hfi : f i = fi at *
      go_wp2_with fail
      refine HW3.out.mono ?_
      rintro e w4 ⟨rfl, rfl⟩
      clear HW3
      by_cases hmin : out ≤ fi
      · rw [Nat.min_eq_left hmin] at HST
        have hmi : (out : Int) ≤ (fi : Int) := by omega
        go_wp2_with fail
        go_roundw
        case rel => exact ⟨i + 1, out, by omega, .inl hlt, by go_num, rfl, hout, HST.out, HX3.out⟩
        case measure => simp [intOf]; omega
      · rw [Nat.min_eq_right (by omega)] at HST
        have hmi : ¬ (out : Int) ≤ (fi : Int) := by omega
        have hmi2 : (fi : Int) ≤ (out : Int) := by omega
        have hmi3 : (fi : Int) < (out : Int) := by omega
        go_wp2_with fail
        go_roundw
        case rel => exact ⟨i + 1, fi, by omega, .inl hlt, by go_num, rfl, by omega, HST.out, HX3.out⟩
        case measure => simp [intOf]; omega
    · have hz : nn - i = 0 := by omega
      have HF : Hid (out = Dv.leastGo f (nn - 1) 1 (cols + 1)) := by
        have := HLG.out
        rw [hz] at this
        exact this
      have k1 : ¬ (i : Int) < (nn : Int) := by omega
      clear HLG
      go_wp2_with fail
      go_ret
      exact ⟨ret_int (by rw [HF.out]), HX2.out.below⟩
end Go.Proofs.YthiackegnpnmbaaGreat

namespace Go.Proofs.YthiackegnpnmbaaGreat
open Go.RowKit Pln

theorem SB.code {w : World} {b : Nat} {d : StD} {Am Ag Af Aa Ab Ap Aq Ar As At : Option Addr} {cm cg cf ca cb cp cq cr cs' ct : Nat} {W : World} (h : SB w b (stCells d Am Ag Af Aa Ab Ap Aq Ar As At cm cg cf ca cb cp cq cr cs' ct) W) : W.rangeAt b 1 [.int .i64 d.p, .int .i64 d.m, .slice Am d.mod.length cm, .int .i64 d.n, .slice Ag d.gen.length cg] :=
  h.sub 1 _ (fun j hj => by rcases j with _ | _ | _ | _ | _ | j <;> first | rfl | (simp at hj; omega))
theorem code_form {d : StD} (hz0 : codeZ d.p d.m d.mod d.n d.gen = 0) : fieldOK d.p d.m d.mod = true ∧ 1 ≤ d.n ∧ d.n ≤ 64 ∧ nzs (natR d.gen) = d.gen ∧ Grid (d.p.toNat ^ d.m.toNat) (natR d.gen).length d.n.toNat (natR d.gen) ∧ d.gen.length ≤ 256 := by
  obtain ⟨h1, h2, h3⟩ := codeZ_n hz0
  have hn : 1 ≤ d.n ∧ d.n ≤ 64 := by
    unfold lengthZ at h2
    split at h2
    · cases h2
    · omega
  have hc : errC d.p d.m d.mod d.n d.gen = 0 := by
    unfold spZ at h3
    split at h3
    · rename_i he
      exact absurd h3 he
    · rename_i he
      exact Classical.byContradiction he
  unfold errC at hc
  rw [if_pos h1] at hc
  obtain ⟨g1, g2, g3, g4, g5⟩ := check_grid hc
  exact ⟨h1, hn.1, hn.2, g1, g2, g5⟩
/-- A code of a step in memory. -/
theorem code_nat {d : StD} {w : World} {Am A : Option Addr} (hz : codeZ d.p d.m d.mod d.n d.gen = 0) (hM : IntsAt w w.heap.size Am d.mod) (hA : RowsAt w w.heap.size A d.gen) :
    RCode d.p.toNat d.m.toNat (mdOf d.m d.mod) Am d.mod.length d.n.toNat (natR d.gen) A w ∧ ((d.p.toNat : Nat) : Int) = d.p ∧ ((d.m.toNat : Nat) : Int) = d.m ∧ ((d.n.toNat : Nat) : Int) = d.n ∧ (natR d.gen).length = d.gen.length := by
  obtain ⟨hok, n1, n2, hnn, hgr, hlen⟩ := code_form hz
  have hsh : shapeM d.p d.m d.mod = true := by unfold fieldOK at hok; rw [Bool.and_eq_true] at hok; exact hok.1
  have hs := shape_is hsh
  have hft := field_ft hok
  have hmdl : (mdOf d.m d.mod).length = d.m.toNat := by
    by_cases hm : d.m = 1
    · rw [hm]; simp [mdOf]
    · unfold mdOf; rw [if_neg hm, List.length_map]; exact hs.len hm
  have HRF : RFld d.p.toNat d.m.toNat (mdOf d.m d.mod) Am d.mod.length w.heap.size w := ⟨hs.small, hmdl, hs.lt, fun h2 => by
    have hm : d.m ≠ 1 := by intro e; rw [e] at h2; exact absurd h2 (by decide)
    exact ⟨hs.len hm, by rw [hs.nat hm]; exact hM⟩⟩
  exact ⟨⟨HRF, ⟨_, hft⟩, by rw [hnn]; exact hA, hgr, by omega, by omega, by rw [natR_len]; exact hlen⟩, hs.p0, hs.m0, by omega, natR_len _⟩
section
variable {P : Program} {ops : Array Oper} {S : World → Prop}
/-- The load of a struct that lies in every world, under a guard that is met. -/
theorem keep_gload_mid {Q : Act → Prop} {a : Act} {o : Oper} {rest : List Oper} (hg : Region.wanted o (yielded ops a.tmps) = true) (ty : TypeId) (x : Operand) (ho : o.op = .load ty x)
    (b off : Nat) (hx : a.eval x = .pointer (some ⟨b, off, none⟩)) (cs : List Value) (d : TypeDesc) (hS : ∀ w, S w → w.rangeAt b off cs)
    (hu : P.underlying ty = some d) (hd : d.isRow = true) (hi : (P.info? ty).map (·.size) = some cs.length)
    (h : wpKeep P ops S Q rest (a.put o.dst (.agg cs.toArray))) : wpKeep P ops S Q (o :: rest) a :=
  keep_gval hg (fun W hW => by
    unfold execOp
    simp only [ho, hx, Instr.loadAt, Instr.sureAddr, Sem.run_bind, Sem.run_pure, Result.andThen_ok, run_loadVar_mid W b off ty cs d (hS W hW) hu hd hi]) h
end
/-- The claim of a step. -/
def TrueOk (d : StD) : Prop := d.low ≤ ((Dv.leastGo (wtAt d.p.toNat d.m.toNat (mdOf d.m d.mod) d.n.toNat (natR d.gen)) ((d.p.toNat ^ d.m.toNat) ^ d.gen.length - 1) 1 (d.n.toNat + 1) : Nat) : Int)
theorem cn_exp {d : StD} (hz : codeZ d.p d.m d.mod d.n d.gen = 0) : ∃ nn : Nat, cnV d.p d.m d.mod d.n d.gen 1024 = (nn : Int) ∧ nn ≤ 1024 ∧ (0 < nn → nn = (d.p.toNat ^ d.m.toNat) ^ d.gen.length) := by
  have e1 : szE d.p d.m d.mod d.n d.gen = expE (d.p.toNat ^ d.m.toNat) d.gen.length := by unfold szE; rw [if_neg (fun h => h hz)]
  have e2 : szV d.p d.m d.mod d.n d.gen = expV (d.p.toNat ^ d.m.toNat) d.gen.length := by unfold szV; rw [if_neg (fun h => h hz)]
  unfold cnV
  rw [e1, e2]
  generalize d.p.toNat ^ d.m.toNat = q
  by_cases hc : expE q d.gen.length ≠ 0 ∨ 1024 < expV q d.gen.length
  · rw [if_pos hc]
    exact ⟨0, rfl, by omega, by omega⟩
  · rw [if_neg hc]
    have h1 : ¬ expE q d.gen.length ≠ 0 := fun h => hc (.inl h)
    have h2 : ¬ 1024 < expV q d.gen.length := fun h => hc (.inr h)
    unfold expE at h1
    by_cases hle : q ^ d.gen.length ≤ 65536
    · unfold expV at h2 ⊢
      rw [if_pos hle] at h2 ⊢
      exact ⟨q ^ d.gen.length, rfl, by omega, fun _ => rfl⟩
    · rw [if_neg hle] at h1
      exact absurd (show (8 : Int) ≠ 0 by decide) h1
set_option maxHeartbeats 2000000 in
set_option maxRecDepth 100000 in
theorem true_c (d : StD) (cs : List Value) (w : World) (h : StC w w.heap.size d cs) (hk : d.ok) (hz : codeZ d.p d.m d.mod d.n d.gen = 0) :
    Calls Tryz.prog 12 #[.agg cs.toArray] w fun e w' => ∃ b, e = .returned (.bool b) ∧ Below w.heap.size w w' ∧ (b = true → TrueOk d) := by
  obtain ⟨Am, Ag, Af, Aa, Ab, Ap, Aq, Ar, As, At, cm, cg, cf, ca, cb, cp, cq, cr, cs', ct, rfl, _, h1, h2, h3, h4, h5⟩ := h
  have HX := Lib.hid (sb_new w (stCells d Am Ag Af Aa Ab Ap Aq Ar As At cm cg cf ca cb cp cq cr cs' ct))
  have HM := Lib.hid h1
  have HA := Lib.hid h2
  obtain ⟨k1, k2, _⟩ := hk
  have e : maxLen = 9223372036854775807 := rfl
  have hgl : d.gen.length ≤ 256 := (code_form hz).2.2.2.2.2
  have HC : Hid (∀ W, Below w.heap.size w W → Calls Tryz.prog 22 #[.agg #[.int .i64 d.p, .int .i64 d.m, .slice Am d.mod.length cm, .int .i64 d.n, .slice Ag d.gen.length cg], .int .i64 1024] W fun e w' => e = .returned (.int .i64 (cnV d.p d.m d.mod d.n d.gen 1024)) ∧ Below W.heap.size W w') := fun W hW =>
    count_c d.p d.m d.mod Am cm d.n d.gen Ag cg 1024 W ((HM.out.keep hW).more hW.size) (by omega) ((HA.out.keep hW).more hW.size) (by omega)
  have HL : Hid (∀ (nn : Nat) (W : World), nn ≤ 65536 → Below w.heap.size w W → Calls Tryz.prog 23 #[.agg #[.int .i64 d.p, .int .i64 d.m, .slice Am d.mod.length cm, .int .i64 d.n, .slice Ag d.gen.length cg], .int .i64 nn] W fun e w' => e = .returned (.int .i64 ((Dv.leastGo (wtAt d.p.toNat d.m.toNat (mdOf d.m d.mod) d.n.toNat (natR d.gen)) (nn - 1) 1 (d.n.toNat + 1) : Nat) : Int)) ∧ Below W.heap.size W w') := fun nn W hnn hW => by
    obtain ⟨hrc, e1, e2, e3, e4⟩ := code_nat hz ((HM.out.keep hW).more hW.size) ((HA.out.keep hW).more hW.size)
    have := least_c hrc cm cg nn hnn
    rw [e1, e2, e3, e4] at this
    exact this
  obtain ⟨nn, hcn, hnn, hne⟩ := cn_exp hz
  rw [hcn] at HC
  have HT : Hid (0 < nn → d.low ≤ ((Dv.leastGo (wtAt d.p.toNat d.m.toNat (mdOf d.m d.mod) d.n.toNat (natR d.gen)) (nn - 1) 1 (d.n.toNat + 1) : Nat) : Int) → TrueOk d) := fun h0 hle => by
    rw [hne h0] at hle
    exact hle
  have HL1 := Lib.hid (fun W hW => HL.out nn W (by omega) hW)
  clear HL hcn hne hz h1 h2 h3 h4 h5 k1 k2 HM HA
  generalize ((Dv.leastGo (wtAt d.p.toNat d.m.toNat (mdOf d.m d.mod) d.n.toNat (natR d.gen)) (nn - 1) 1 (d.n.toNat + 1) : Nat) : Int) = lv at *
  go_enter Tryz.func12, Tryz.ntmps12
  go_upto_region 1 with fail
  generalize w.alloc (.cells (stCells d Am Ag Af Aa Ab Ap Aq Ar As At cm cg cf ca cb cp cq cr cs' ct).toArray 38) = W0 at *
  have HRG : Hid (W0.rangeAt w.heap.size 1 [.int .i64 d.p, .int .i64 d.m, .slice Am d.mod.length cm, .int .i64 d.n, .slice Ag d.gen.length cg]) := HX.out.code
  have HC0 := Lib.hid (HC.out W0 HX.out.2.1)
  go_wp2_with (refine wpList_load_mid rfl 30 (.tmp 4) rfl w.heap.size 1 rfl [.int .i64 d.p, .int .i64 d.m, .slice Am d.mod.length cm, .int .i64 d.n, .slice Ag d.gen.length cg] _ HRG.out Tryz.underlying30 rfl codeSize ?_)
  refine HC0.out.mono ?_
  rintro e w1 ⟨rfl, hb1⟩
  have HX1 := Lib.hid (HX.out.grow hb1)
  clear hb1 HX HRG HC0 HC
  by_cases h0 : 0 < nn
  · have d0 : decide ((0 : Int) < (nn : Int)) = true := decide_eq_true (by omega)
    go_upto_region 2 with fail
    refine wp_region_keep (SB w w.heap.size (stCells d Am Ag Af Aa Ab Ap Aq Ar As At cm cg cf ca cb cp cq cr cs' ct)) (by kernel_rfl) (by kernel_rfl) (HX1.out.grow (Below.refl _ _).drew) ?_
    repeat (first
      | (refine keep_gload_mid rfl 30 (.tmp 12) rfl w.heap.size 1 rfl [.int .i64 d.p, .int .i64 d.m, .slice Am d.mod.length cm, .int .i64 d.n, .slice Ag d.gen.length cg] _ (fun W hS => hS.code) Tryz.underlying30 rfl codeSize ?_
         go_simp)
      | (apply keep_val rfl
         · intro W hS
           have y6 : W.cell? ⟨w.heap.size, 6, none⟩ = some (.int .i64 d.low) := hS.cell rfl
           go_simp
           try rfl
         go_simp)
      | (apply keep_gval rfl
         · intro W hS
           have y6 : W.cell? ⟨w.heap.size, 6, none⟩ = some (.int .i64 d.low) := hS.cell rfl
           go_simp
           try rfl
         go_simp)
      | (apply keep_gcall rfl
         · intro W hS
           go_simp
           exact ⟨rfl, rfl⟩
         · intro W hS
           exact (HL1.out W hS.2.1).mono (by rintro e w' ⟨rfl, hb⟩; exact ⟨rfl, hS.grow hb⟩)
         go_simp))
    refine wpKeep_nil ?_
    intro w2 hS
    have HX2 := Lib.hid hS
    clear hS HX1 HL1
    go_wp2_with fail
    go_ret
    exact ⟨_, rfl, HX2.out.2.1, fun hb => HT.out h0 (by simpa using hb)⟩
  · have d0 : decide ((0 : Int) < (nn : Int)) = false := decide_eq_false (by omega)
    go_upto_region 2 with fail
    refine wp_region_keep (SB w w.heap.size (stCells d Am Ag Af Aa Ab Ap Aq Ar As At cm cg cf ca cb cp cq cr cs' ct)) (by kernel_rfl) (by kernel_rfl) (HX1.out.grow (Below.refl _ _).drew) ?_
    repeat (first
      | (apply keep_val rfl
         · intro W hS
           go_simp
           try rfl
         go_simp)
      | (apply keep_not rfl; go_simp))
    refine wpKeep_nil ?_
    intro w2 hS
    have HX2 := Lib.hid hS
    clear hS HX1 HL1
    go_wp2_with fail
    go_ret
    exact ⟨_, rfl, HX2.out.2.1, fun hb => by simp at hb⟩
end Go.Proofs.YthiackegnpnmbaaGreat

