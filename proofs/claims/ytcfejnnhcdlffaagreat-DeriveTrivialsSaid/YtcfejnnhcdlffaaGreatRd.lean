/-
  The reference's field: Check.
-/
import Derived.Test.YtcfejnnhcdlffaaGreatRc
namespace Go.Proofs.YtcfejnnhcdlffaaGreat
open Go.RowKit Pln

theorem fieldOK_order {p m : Int} {mod : List Int} (h : orderM p m = 0) : fieldOK p m mod = false := by
  rw [fieldOK_eq]
  unfold shapeM
  rw [h]
  rfl
theorem fieldOK_prime {p m : Int} {mod : List Int} (h : primeB p.toNat = false) : fieldOK p m mod = false := by
  rw [fieldOK_eq]
  unfold shapeM primeP
  rw [h]
  simp
theorem shape_of {p m : Int} {mod : List Int} (ho : orderM p m ≠ 0) (hp : primeB p.toNat = true) : shapeM p m mod = (if m = 1 then mod.length == 0 else ((mod.length : Int) == m) && mod.all (inB p)) := by
  have h2 := (orderM_ne ho).2.2.1.p1
  unfold shapeM primeP
  rw [hp, show (orderM p m == 0) = false by rw [beq_eq_false_iff_ne]; exact ho, show Nat.ble 2 p.toNat = true by rw [Nat.ble_eq]; exact h2]
  simp
theorem fieldOK_one {p m : Int} {mod : List Int} (ho : orderM p m ≠ 0) (hp : primeB p.toNat = true) (hm : m = 1) : fieldOK p m mod = (mod.length == 0) := by
  rw [fieldOK_eq, shape_of ho hp, if_pos hm]
  simp [hm]
theorem fieldOK_more {p m : Int} {mod : List Int} (ho : orderM p m ≠ 0) (hp : primeB p.toNat = true) (hm : m ≠ 1) : fieldOK p m mod = (((mod.length : Int) == m) && mod.all (inB p) && irrM p.toNat (mod.map Int.toNat)) := by
  rw [fieldOK_eq, shape_of ho hp, if_neg hm]
  simp [hm]
theorem map_nz {p : Int} {mod : List Int} (h : mod.all (inB p) = true) : nz (mod.map Int.toNat) = mod ∧ ∀ d ∈ mod.map Int.toNat, d < p.toNat := by
  have hall : ∀ z ∈ mod, 0 ≤ z ∧ z < p := fun z hz => by
    have := List.all_eq_true.1 h z hz
    simpa [inB] using this
  refine ⟨?_, fun d hd => ?_⟩
  · unfold nz
    rw [List.map_map]
    conv => rhs; rw [← List.map_id mod]
    apply List.map_congr_left
    intro z hz
    have := hall z hz
    simp
    omega
  · obtain ⟨z, hz, rfl⟩ := List.mem_map.1 hd
    have := hall z hz
    omega
def RelMo (w1 : World) (p : Int) (mod : List Int) (v3 : Value) (wr : World) : Prop := ∃ k n : Nat, k ≤ mod.length ∧ v3 = .int .i64 k ∧ (mod.take k).all (inB p) = true ∧ wr = w1.drewN n

set_option maxHeartbeats 1000000 in
set_option maxRecDepth 100000 in
theorem rfcheck_c (p m : Int) (mod : List Int) (A : Option Addr) (c : Nat) (w : World) (hA : IntsAt w w.heap.size A mod) (hl : mod.length ≤ 9223372036854775807) :
    Calls Tryz.prog 12 #[.agg #[.int .i64 p, .int .i64 m, .slice A mod.length c]] w fun e w' => e = .returned (.int .i64 (errF (fieldOK p m mod))) ∧ Below w.heap.size w w' := by
  have HX : Hid (SBoxF w p m A mod.length c (w.alloc (.cells #[.int .i64 p, .int .i64 m, .slice A mod.length c] 24))) := ⟨(Below.refl _ _).alloc (Nat.le_refl _) _, by simp, heap_alloc_new _ _⟩
  have HA := Lib.hid hA
  clear hA
  go_enter Tryz.func12, Tryz.ntmps12
  go_upto_region 1 with fail
  generalize w.alloc (.cells #[.int .i64 p, .int .i64 m, .slice A mod.length c] 24) = W0 at *
  have HRG : Hid (W0.rangeAt w.heap.size 0 [.int .i64 p, .int .i64 m, .slice A mod.length c]) := range_of_row HX.out.2.2
  have HC := Lib.hid (rorder_c p m A mod.length c W0)
  by_cases ho : orderM p m = 0
  · have HF : Hid (errF (fieldOK p m mod) = 1) := by show _ = _; rw [fieldOK_order ho]; rfl
    rw [ho] at HC
    clear ho
    go_wp2_with (refine wpList_load_mid rfl 24 (.tmp 1) rfl w.heap.size 0 rfl [.int .i64 p, .int .i64 m, .slice A mod.length c] _ HRG.out Tryz.underlying24 rfl fieldSize ?_)
    (with_reducible refine HC.out.mono ?_)
    rintro e w1 ⟨rfl, hb1⟩
    have HX1 := Lib.hid (HX.out.grow hb1)
    clear hb1
    go_wp2_with fail
    go_ret
    exact ⟨ret_int HF.out.symm, HX1.out.1⟩
  · have HO := Lib.hid ho
    obtain ⟨hp0, hm0, hs, hord⟩ := orderM_ne ho
    have hob : (orderM p m == 0) = false := by rw [beq_eq_false_iff_ne]; exact ho
    have HPR : Hid (∀ W : World, Calls Tryz.prog 27 #[.int .i64 p] W fun e w' => e = .returned (.bool (primeB p.toNat)) ∧ W = w') := fun W => by
      have := rprime_c p.toNat (by have := hs.p2; omega) W
      rw [hp0] at this
      exact this
    have HP0 := Lib.hid hp0
    have HM0 := Lib.hid hm0
    have HS := Lib.hid hs
    have hm9 : m ≤ 8 := by have := hs.m2; omega
    have hm1 : 1 ≤ m := by have := hs.m1; omega
    have hp9 : p ≤ 256 := by have := hs.p2; omega
    have hp1 : 2 ≤ p := by have := hs.p1; omega
    have HONE : Hid (primeB p.toNat = true → m = 1 → fieldOK p m mod = (mod.length == 0)) := fun h h' => fieldOK_one ho h h'
    have HMORE : Hid (primeB p.toNat = true → m ≠ 1 → fieldOK p m mod = (((mod.length : Int) == m) && mod.all (inB p) && irrM p.toNat (mod.map Int.toNat))) := fun h h' => fieldOK_more ho h h'
    clear ho hp0 hm0 hs hord
    generalize orderM p m = q at *
    cases hpr : primeB p.toNat
    · have HF : Hid (errF (fieldOK p m mod) = 1) := by show _ = _; rw [fieldOK_prime hpr]; rfl
      rw [hpr] at HPR
      clear hpr
      go_wp2_with (refine wpList_load_mid rfl 24 (.tmp 1) rfl w.heap.size 0 rfl [.int .i64 p, .int .i64 m, .slice A mod.length c] _ HRG.out Tryz.underlying24 rfl fieldSize ?_)
      (with_reducible refine HC.out.mono ?_)
      rintro e w1 ⟨rfl, hb1⟩
      have HX1 := Lib.hid (HX.out.grow hb1)
      have b0 : w1.cell? ⟨w.heap.size, 0, none⟩ = some (.int .i64 p) := cell_of_row _ _ 0 _ _ _ HX1.out.2.2
      clear hb1
      go_wp2_with (go_at_call 27; (with_reducible refine (HPR.out _).mono ?_); rintro e w' ⟨rfl, rfl⟩)
      go_ret
      exact ⟨ret_int HF.out.symm, HX1.out.1⟩
    · have HPB := Lib.hid hpr
      rw [hpr] at HPR
      clear hpr
      go_wp2_with (refine wpList_load_mid rfl 24 (.tmp 1) rfl w.heap.size 0 rfl [.int .i64 p, .int .i64 m, .slice A mod.length c] _ HRG.out Tryz.underlying24 rfl fieldSize ?_)
      (with_reducible refine HC.out.mono ?_)
      rintro e w1 ⟨rfl, hb1⟩
      have HX1 := Lib.hid (HX.out.grow hb1)
      have b0 : w1.cell? ⟨w.heap.size, 0, none⟩ = some (.int .i64 p) := cell_of_row _ _ 0 _ _ _ HX1.out.2.2
      have b1 : w1.cell? ⟨w.heap.size, 1, none⟩ = some (.int .i64 m) := cell_of_row _ _ 1 _ _ _ HX1.out.2.2
      have b2 : w1.cell? ⟨w.heap.size, 2, none⟩ = some (.slice A mod.length c) := cell_of_row _ _ 2 _ _ _ HX1.out.2.2
      clear hb1 HC HRG HX
      clear W0
      by_cases hm : m = 1
      · have HF1 := Lib.hid (HONE.out HPB.out hm)
        by_cases hz : mod.length = 0
        · have HF : Hid (errF (fieldOK p m mod) = 0) := by show _ = _; rw [HF1.out, hz]; rfl
          have hzb : ((mod.length : Int) != 0) = false := by rw [hz]; rfl
          have hmb : (m == 1) = true := by rw [hm]; rfl
          clear hz hm
          go_wp2_with (go_at_call 27; (with_reducible refine (HPR.out _).mono ?_); rintro e w' ⟨rfl, rfl⟩)
          go_ret
          exact ⟨ret_int HF.out.symm, HX1.out.1⟩
        · have HF : Hid (errF (fieldOK p m mod) = 1) := by show _ = _; rw [HF1.out, show (mod.length == 0) = false by simpa using hz]; rfl
          have hzb : ((mod.length : Int) != 0) = true := by rw [bne_iff_ne]; omega
          have hmb : (m == 1) = true := by rw [hm]; rfl
          clear hz hm
          go_wp2_with (go_at_call 27; (with_reducible refine (HPR.out _).mono ?_); rintro e w' ⟨rfl, rfl⟩)
          go_ret
          exact ⟨ret_int HF.out.symm, HX1.out.1⟩
      · have HF1 := Lib.hid (HMORE.out HPB.out hm)
        have hmb : (m == 1) = false := by rw [beq_eq_false_iff_ne]; exact hm
        have HMN := Lib.hid hm
        clear hm
        by_cases hz : (mod.length : Int) = m
        · have hzb : ((mod.length : Int) != m) = false := by rw [hz]; simp
          have HZ := Lib.hid hz
          have hml : mod.length ≤ 8 := by omega
          clear hz
          have HA1 := Lib.hid ((HA.out.keep HX1.out.1).more HX1.out.1.size)
          have HB1 : Hid (∀ n, Below w.heap.size w (w1.drewN n)) := fun n => below_drewN HX1.out.1 n
          have HALLF : Hid (mod.all (inB p) = false → errF (fieldOK p m mod) = 1) := fun h => by rw [HF1.out, h, Bool.and_false, Bool.false_and]; rfl
          have HALLT : Hid (mod.all (inB p) = true → errF (fieldOK p m mod) = errF (irrM p.toNat (mod.map Int.toNat))) := fun h => by
            rw [HF1.out, h, show ((mod.length : Int) == m) = true by rw [beq_iff_eq]; exact HZ.out]
            rfl
          have HIRR : Hid (mod.all (inB p) = true → ∀ n, Calls Tryz.prog 28 #[.slice A mod.length c, .int .i64 p] (w1.drewN n) fun e w' => e = .returned (.bool (irrM p.toNat (mod.map Int.toNat))) ∧ Below w1.heap.size (w1.drewN n) w') := fun h n => by
            obtain ⟨h1, h2⟩ := map_nz h
            have hml2 : (mod.map Int.toNat).length = mod.length := by simp
            have := rirr_c p.toNat (mod.map Int.toNat) A c (w1.drewN n) (by have := HP0.out; omega) (by have := HP0.out; omega) (by rw [h1]; exact HA1.out.keep (below_drewN (Below.refl _ _) n)) ⟨rfl, h2⟩ (by rw [hml2]; exact hml) (by
              rw [hml2]
              have e : mod.length = m.toNat := by have := HZ.out; have := HM0.out; omega
              rw [e]
              exact HS.out.q)
            rw [hml2, HP0.out] at this
            exact this
          clear HF1 HMORE HONE
          go_wp2_with (go_at_call 27; (with_reducible refine (HPR.out _).mono ?_); rintro e w' ⟨rfl, rfl⟩)
          go_loopw [3] (fun v3 wr => RelMo w1 p mod v3 wr) (fun v3 _ => mod.length - (intOf v3).toNat)
          case atStart => exact ⟨0, 0, by omega, rfl, by simp, rfl⟩
          case round =>
            obtain ⟨k, n, hk, rfl, hall, rfl⟩ := hrel
            have HALL := Lib.hid hall
            clear hall
            have hkm : (k : Int) ≤ m := by have := HZ.out; omega
            by_cases hlt : k < mod.length
            · obtain ⟨b, o, rfl, hbl, hc⟩ := HA1.out.at_ hlt
              have HTK := Lib.hid (all_take_succ (inB p) mod 0 k hlt)
              have HFL := Lib.hid (all_false_at (inB p) mod 0 k hlt)
              have hkm2 : (k : Int) < m := by have := HZ.out; omega
              have k0 : (0 : Int) ≤ (k : Int) := by omega
              have k1 : (k : Int) < (mod.length : Int) := by omega
              generalize mod.getD k 0 = z at *
              by_cases hz1 : z < 0
              · have HE : Hid (errF (fieldOK p m mod) = 1) := HALLF.out (HFL.out (by unfold inB; rw [decide_eq_false (by omega)]; rfl))
                clear HTK HFL
                go_upto_region 12 with fail
                refine wp_region_keep (SDrew w1) (by kernel_rfl) (by kernel_rfl) ⟨n + 1, by rw [← World.drewN_drewN]; rfl⟩ ?_
                repeat (first
                  | (apply keep_val rfl
                     · intro W hS
                       obtain ⟨n', rfl⟩ := hS
                       go_simp
                       rfl
                     go_simp)
                  | (apply keep_gval rfl
                     · intro W hS
                       obtain ⟨n', rfl⟩ := hS
                       go_simp
                       rfl
                     go_simp)
                  | (apply keep_not rfl; go_simp))
                refine wpKeep_nil ?_
                intro w2 hS2
                obtain ⟨n2, rfl⟩ := hS2
                go_wp2_with fail
                go_ret
                exact ⟨ret_int HE.out.symm, HB1.out _⟩
              · have hz1b : decide (z < 0) = false := decide_eq_false hz1
                by_cases hz2 : p ≤ z
                · have HE : Hid (errF (fieldOK p m mod) = 1) := HALLF.out (HFL.out (by unfold inB; rw [decide_eq_false (p := z < p) (by omega), Bool.and_false]))
                  clear HTK HFL
                  go_upto_region 12 with fail
                  refine wp_region_keep (SDrew w1) (by kernel_rfl) (by kernel_rfl) ⟨n + 1, by rw [← World.drewN_drewN]; rfl⟩ ?_
                  repeat (first
                    | (apply keep_val rfl
                       · intro W hS
                         obtain ⟨n', rfl⟩ := hS
                         go_simp
                         rfl
                       go_simp)
                    | (apply keep_gval rfl
                       · intro W hS
                         obtain ⟨n', rfl⟩ := hS
                         go_simp
                         rfl
                       go_simp)
                    | (apply keep_not rfl; go_simp))
                  refine wpKeep_nil ?_
                  intro w2 hS2
                  obtain ⟨n2, rfl⟩ := hS2
                  go_wp2_with fail
                  go_ret
                  exact ⟨ret_int HE.out.symm, HB1.out _⟩
                · have hz2b : decide (p ≤ z) = false := decide_eq_false hz2
                  have HN : Hid ((mod.take (k + 1)).all (inB p) = true) := by show _ = _; rw [HTK.out, HALL.out]; unfold inB; rw [decide_eq_true (by omega : 0 ≤ z), decide_eq_true (by omega : z < p)]; rfl
                  clear HTK HFL
                  go_upto_region 12 with fail
                  refine wp_region_keep (SDrew w1) (by kernel_rfl) (by kernel_rfl) ⟨n + 1, by rw [← World.drewN_drewN]; rfl⟩ ?_
                  repeat (first
                    | (apply keep_val rfl
                       · intro W hS
                         obtain ⟨n', rfl⟩ := hS
                         go_simp
                         rfl
                       go_simp)
                    | (apply keep_gval rfl
                       · intro W hS
                         obtain ⟨n', rfl⟩ := hS
                         go_simp
                         rfl
                       go_simp)
                    | (apply keep_not rfl; go_simp))
                  refine wpKeep_nil ?_
                  intro w2 hS2
                  obtain ⟨n2, rfl⟩ := hS2
                  go_wp2_with fail
                  go_roundw
                  case rel => exact ⟨k + 1, n2, by omega, by go_num, HN.out, rfl⟩
                  case measure => simp [intOf]; omega
            · have hke : k = mod.length := by omega
              have HAT : Hid (mod.all (inB p) = true) := by
                have := HALL.out
                rw [hke, List.take_length] at this
                exact this
              have hkm2 : ¬ (k : Int) < m := by have := HZ.out; omega
              have HC2 := Lib.hid (HIRR.out HAT.out n)
              have HE := Lib.hid (HALLT.out HAT.out)
              clear HALL HIRR HALLT HALLF hke
              generalize irrM p.toNat (mod.map Int.toNat) = ir at *
              go_wp2_with fail
              (with_reducible refine HC2.out.mono ?_)
              rintro e w2 ⟨rfl, hb2⟩
              have HB2 := Lib.hid ((HB1.out n).trans (hb2.mono (by have := HX1.out.2.1; omega)))
              clear hb2
              cases ir
              · go_wp2_with fail
                go_ret
                exact ⟨ret_int HE.out.symm, HB2.out⟩
              · go_wp2_with fail
                go_ret
                exact ⟨ret_int HE.out.symm, HB2.out⟩
        · have HF : Hid (errF (fieldOK p m mod) = 1) := by show _ = _; rw [HF1.out, show ((mod.length : Int) == m) = false by rw [beq_eq_false_iff_ne]; exact hz]; rfl
          have hzb : ((mod.length : Int) != m) = true := by rw [bne_iff_ne]; exact hz
          clear hz
          go_wp2_with (go_at_call 27; (with_reducible refine (HPR.out _).mono ?_); rintro e w' ⟨rfl, rfl⟩)
          go_ret
          exact ⟨ret_int HF.out.symm, HX1.out.1⟩
#print axioms rfcheck_c
end Go.Proofs.YtcfejnnhcdlffaaGreat
