/-
  The reference's rows: SameInts, SameRows.
-/
import Derived.Test.YtcfejnnhcdlffaaGreatRo
namespace Go.Proofs.YtcfejnnhcdlffaaGreat
open Go.RowKit Pln

set_option maxHeartbeats 1000000 in
set_option maxRecDepth 100000 in
theorem rsame_c (zs ys : List Int) (A A' : Option Addr) (c c' : Nat) (w : World) (hA : IntsAt w w.heap.size A zs) (hA' : IntsAt w w.heap.size A' ys) (hl : zs.length ≤ 9223372036854775807) :
    Calls Tryz.prog 15 #[.slice A zs.length c, .slice A' ys.length c'] w (Quiet (.bool (decide (zs = ys))) w) := by
  have HA := Lib.hid hA
  have HA' := Lib.hid hA'
  clear hA hA'
  by_cases hle : zs.length = ys.length
  · have HNE : Hid (∀ k, k < zs.length → zs.getD k 0 ≠ ys.getD k 0 → decide (zs = ys) = false) := fun k hk h => decide_eq_false (fun e => h (by rw [e]))
    have HEND : Hid (zs.take zs.length = ys.take zs.length → decide (zs = ys) = true) := fun h => decide_eq_true (by rw [List.take_length, hle, List.take_length] at h; exact h)
    have HST : Hid (∀ k, k < zs.length → zs.take k = ys.take k → zs.getD k 0 = ys.getD k 0 → zs.take (k + 1) = ys.take (k + 1)) := fun k hk h he => take_succ_eq 0 hk (by omega) h he
    have hlb : ((zs.length : Int) != (ys.length : Int)) = false := by simp; omega
    have hyl : ys.length ≤ zs.length := by omega
    have hyl2 : zs.length ≤ ys.length := by omega
    clear hle
    go_enter Tryz.func15, Tryz.ntmps15
    go_wp2_with fail
    go_loopw [5] (fun v13 wr => RelEq zs ys w v13 wr) (fun v13 _ => zs.length - (intOf v13).toNat)
    case atStart => exact ⟨0, 0, by omega, rfl, by simp, rfl⟩
    case round =>
      obtain ⟨k, n, hk, rfl, htk, rfl⟩ := hrel
      have HTK := Lib.hid htk
      clear htk
      by_cases hlt : k < zs.length
      · obtain ⟨b, o, rfl, hb, hc⟩ := HA.out.at_ hlt
        obtain ⟨b', o', rfl, hb', hc'⟩ := HA'.out.at_ (k := k) (by omega)
        have HN := Lib.hid (HNE.out k hlt)
        have HS := Lib.hid (HST.out k hlt HTK.out)
        generalize zs.getD k 0 = z at *
        generalize ys.getD k 0 = y at *
        have k0 : (0 : Int) ≤ (k : Int) := by omega
        have k1 : (k : Int) < (zs.length : Int) := by omega
        have k2 : (k : Int) < (ys.length : Int) := by omega
        by_cases hz : z = y
        · have hzb : (z != y) = false := by simp [hz]
          have HS2 := Lib.hid (HS.out hz)
          clear hz
          go_upto_region 6 with fail
          go_quiet (fail)
          go_wp2_with fail
          go_roundw
          case rel => exact ⟨k + 1, n + nq, by omega, by go_num, HS2.out, rfl⟩
          case measure => simp [intOf]; omega
        · have hzb : (z != y) = true := by simp [hz]
          have HN2 := Lib.hid (HN.out hz)
          clear hz
          go_upto_region 6 with fail
          go_quiet (fail)
          go_wp2_with fail
          go_ret
          exact ⟨ret_bool HN2.out.symm, n + nq, by first | rfl | rw [World.drewN_drewN]⟩
      · obtain rfl : k = zs.length := by omega
        have HE := Lib.hid (HEND.out HTK.out)
        go_wp2_with fail
        go_ret
        exact ⟨ret_bool HE.out.symm, n, rfl⟩
  · have hlb : ((zs.length : Int) != (ys.length : Int)) = true := by simp; omega
    have HE : Hid (decide (zs = ys) = false) := decide_eq_false (fun e => hle (by rw [e]))
    clear hle
    go_enter Tryz.func15, Tryz.ntmps15
    go_wp2_with fail
    go_ret
    exact ⟨ret_bool HE.out.symm, 0, rfl⟩
#print axioms rsame_c

set_option maxHeartbeats 1000000 in
set_option maxRecDepth 100000 in
theorem rsamerows_c (zs ys : List (List Int)) (A A' : Option Addr) (c c' : Nat) (w : World) (hA : RowsAt w w.heap.size A zs) (hA' : RowsAt w w.heap.size A' ys) (hl : zs.length ≤ 9223372036854775807) (hr : ∀ k, k < zs.length → (zs.getD k []).length ≤ 9223372036854775807) :
    Calls Tryz.prog 31 #[.slice A zs.length c, .slice A' ys.length c'] w (Quiet (.bool (decide (zs = ys))) w) := by
  have HA := Lib.hid hA
  have HA' := Lib.hid hA'
  have HR := Lib.hid hr
  clear hA hA' hr
  by_cases hle : zs.length = ys.length
  · have HNE : Hid (∀ k, k < zs.length → zs.getD k [] ≠ ys.getD k [] → decide (zs = ys) = false) := fun k hk h => decide_eq_false (fun e => h (by rw [e]))
    have HEND : Hid (zs.take zs.length = ys.take zs.length → decide (zs = ys) = true) := fun h => decide_eq_true (by rw [List.take_length, hle, List.take_length] at h; exact h)
    have HST : Hid (∀ k, k < zs.length → zs.take k = ys.take k → zs.getD k [] = ys.getD k [] → zs.take (k + 1) = ys.take (k + 1)) := fun k hk h he => take_succ_eq [] hk (by omega) h he
    have hlb : ((zs.length : Int) != (ys.length : Int)) = false := by simp; omega
    have hyl : ys.length ≤ zs.length := by omega
    have hyl2 : zs.length ≤ ys.length := by omega
    clear hle
    go_enter Tryz.func31, Tryz.ntmps31
    go_wp2_with fail
    go_loopw [5] (fun v17 wr => RelEq zs ys w v17 wr) (fun v17 _ => zs.length - (intOf v17).toNat)
    case atStart => exact ⟨0, 0, by omega, rfl, by simp, rfl⟩
    case round =>
      obtain ⟨k, n, hk, rfl, htk, rfl⟩ := hrel
      have HTK := Lib.hid htk
      clear htk
      by_cases hlt : k < zs.length
      · obtain ⟨b, o, Ai, ci, rfl, hb, hc, hi⟩ := HA.out.at_ hlt
        obtain ⟨b', o', Ai', ci', rfl, hb', hc', hi'⟩ := HA'.out.at_ (i := k) (by omega)
        have HN := Lib.hid (HNE.out k hlt)
        have HS := Lib.hid (HST.out k hlt HTK.out)
        have HCA : Hid (∀ n, Calls Tryz.prog 15 #[.slice Ai (zs.getD k []).length ci, .slice Ai' (ys.getD k []).length ci'] (w.drewN n) (Quiet (.bool (decide (zs.getD k [] = ys.getD k []))) (w.drewN n))) := fun n =>
          rsame_c (zs.getD k []) (ys.getD k []) Ai Ai' ci ci' (w.drewN n) (hi.keep (below_drewN (Below.refl _ _) n)) (hi'.keep (below_drewN (Below.refl _ _) n)) (HR.out k hlt)
        clear hi hi'
        have k0 : (0 : Int) ≤ (k : Int) := by omega
        have k1 : (k : Int) < (zs.length : Int) := by omega
        have k2 : (k : Int) < (ys.length : Int) := by omega
        by_cases hz : zs.getD k [] = ys.getD k []
        · have HS2 := Lib.hid (HS.out hz)
          have HZ : Hid (decide (zs.getD k [] = ys.getD k []) = true) := decide_eq_true hz
          clear hz HN HS
          have HC3 : Hid (∀ W, SDrew w W → Calls Tryz.prog 15 #[.slice Ai (zs.getD k []).length ci, .slice Ai' (ys.getD k []).length ci'] W fun e w' => e = .returned (.bool true) ∧ SDrew w w') := fun W ⟨n', hW⟩ => by
            subst hW
            refine (HCA.out n').mono ?_
            rintro e w' ⟨he, n3, rfl⟩
            exact ⟨by rw [he, HZ.out], n' + n3, by rw [World.drewN_drewN]⟩
          clear HCA HZ
          generalize (zs.getD k []).length = n1 at *
          generalize (ys.getD k []).length = n2 at *
          go_upto_region 6 with fail
          refine wp_region_keep (SDrew w) (by kernel_rfl) (by kernel_rfl) ⟨n + 1, by rw [← World.drewN_drewN]; rfl⟩ ?_
          repeat (first
            | (apply keep_val rfl
               · intro W hS
                 obtain ⟨n', rfl⟩ := hS
                 go_simp
                 rfl
               go_simp)
            | (apply keep_call rfl
               · intro W hS
                 go_simp
                 exact ⟨rfl, rfl⟩
               · intro W hS
                 exact HC3.out W hS
               go_simp))
          refine wpKeep_nil ?_
          intro w2 hS2
          obtain ⟨n3, rfl⟩ := hS2
          go_wp2_with fail
          go_roundw
          case rel => exact ⟨k + 1, n3, by omega, by go_num, HS2.out, rfl⟩
          case measure => simp [intOf]; omega
        · have HN2 := Lib.hid (HN.out hz)
          have HZ : Hid (decide (zs.getD k [] = ys.getD k []) = false) := decide_eq_false hz
          clear hz HN HS
          have HC3 : Hid (∀ W, SDrew w W → Calls Tryz.prog 15 #[.slice Ai (zs.getD k []).length ci, .slice Ai' (ys.getD k []).length ci'] W fun e w' => e = .returned (.bool false) ∧ SDrew w w') := fun W ⟨n', hW⟩ => by
            subst hW
            refine (HCA.out n').mono ?_
            rintro e w' ⟨he, n3, rfl⟩
            exact ⟨by rw [he, HZ.out], n' + n3, by rw [World.drewN_drewN]⟩
          clear HCA HZ
          generalize (zs.getD k []).length = n1 at *
          generalize (ys.getD k []).length = n2 at *
          go_upto_region 6 with fail
          refine wp_region_keep (SDrew w) (by kernel_rfl) (by kernel_rfl) ⟨n + 1, by rw [← World.drewN_drewN]; rfl⟩ ?_
          repeat (first
            | (apply keep_val rfl
               · intro W hS
                 obtain ⟨n', rfl⟩ := hS
                 go_simp
                 rfl
               go_simp)
            | (apply keep_call rfl
               · intro W hS
                 go_simp
                 exact ⟨rfl, rfl⟩
               · intro W hS
                 exact HC3.out W hS
               go_simp))
          refine wpKeep_nil ?_
          intro w2 hS2
          obtain ⟨n3, rfl⟩ := hS2
          go_wp2_with fail
          go_ret
          exact ⟨ret_bool HN2.out.symm, n3, rfl⟩
      · obtain rfl : k = zs.length := by omega
        have HE := Lib.hid (HEND.out HTK.out)
        go_wp2_with fail
        go_ret
        exact ⟨ret_bool HE.out.symm, n, rfl⟩
  · have hlb : ((zs.length : Int) != (ys.length : Int)) = true := by simp; omega
    have HE : Hid (decide (zs = ys) = false) := decide_eq_false (fun e => hle (by rw [e]))
    clear hle
    go_enter Tryz.func31, Tryz.ntmps31
    go_wp2_with fail
    go_ret
    exact ⟨ret_bool HE.out.symm, 0, rfl⟩
#print axioms rsamerows_c
end Go.Proofs.YtcfejnnhcdlffaaGreat
