/-
  The reference's field: irreducible, Check.
-/
import Derived.Test.YtcfejnnhcdlffaaGreatRaM
namespace Go.Proofs.YtcfejnnhcdlffaaGreat
open Go.RowKit Pln

theorem range_all_succ (f : Nat → Bool) (k : Nat) : (List.range (k + 1)).all f = ((List.range k).all f && f k) := by
  rw [List.range_succ, List.all_append]
  simp
theorem range_all_false (f : Nat → Bool) {n k : Nat} (hk : k < n) (h : f k = false) : (List.range n).all f = false := by
  rw [List.all_eq_false]
  exact ⟨k, List.mem_range.2 hk, by rw [h]; simp⟩
/-- No divisor of degree d + 1. -/
def noDiv (p : Nat) (md : List Nat) (d : Nat) : Bool := (List.range (p ^ (d + 1))).all fun v => !dividesM p (digs p (d + 1) v) md
theorem irrM_eq (p : Nat) (md : List Nat) : irrM p md = (List.range (md.length / 2)).all (noDiv p md) := rfl
def RelIr (w : World) (p : Nat) (md : List Nat) (v5 v6 : Value) (wr : World) : Prop :=
  ∃ d : Nat, d ≤ md.length / 2 ∧ v6 = .int .i64 ((d + 1 : Nat) : Int) ∧ v5 = .int .i64 ((p ^ d : Nat) : Int) ∧ (List.range d).all (noDiv p md) = true ∧ Below w.heap.size w wr
def RelIv (w : World) (p : Nat) (md : List Nat) (d : Nat) (v7 : Value) (wr : World) : Prop :=
  ∃ v : Nat, v ≤ p ^ (d + 1) ∧ v7 = .int .i64 (v : Int) ∧ (List.range v).all (fun v => !dividesM p (digs p (d + 1) v) md) = true ∧ Below w.heap.size w wr

set_option maxHeartbeats 1000000 in
set_option maxRecDepth 100000 in
theorem rirr_c (p : Nat) (md : List Nat) (Am : Option Addr) (cm : Nat) (w : World) (hp : 2 ≤ p) (hp2 : p ≤ 256) (hM : IntsAt w w.heap.size Am (nz md)) (hm : Dig p md.length md) (hml : md.length ≤ 8) (hq : p ^ md.length ≤ 256) :
    Calls Tryz.prog 28 #[.slice Am md.length cm, .int .i64 p] w fun e w' => e = .returned (.bool (irrM p md)) ∧ Below w.heap.size w w' := by
  have HM := Lib.hid hM
  have HDM := Lib.hid hm
  have HIR := Lib.hid (irrM_eq p md)
  have HPW : Hid (∀ d, d < md.length / 2 → p ^ (d + 1) ≤ 256) := fun d hd => Nat.le_trans (pow_le_mono hp (by omega)) hq
  clear hM hm
  go_enter Tryz.func28, Tryz.ntmps28
  go_wp2_with fail
  go_loopw [5, 6] (fun v5 v6 wr => RelIr w p md v5 v6 wr) (fun _ v6 _ => md.length + 1 - (intOf v6).toNat)
  case atStart => exact ⟨0, Nat.zero_le _, rfl, by rw [Nat.pow_zero]; rfl, rfl, Below.refl _ _⟩
  case round =>
    obtain ⟨d, hd, rfl, rfl, hall, hb⟩ := hrel
    have HALL := Lib.hid hall
    have HB := Lib.hid hb
    clear hall hb
    by_cases hlt : d < md.length / 2
    · have HQ : Hid (p ^ (d + 1) = p ^ d * p) := Nat.pow_succ _ _
      have hpw := HPW.out d hlt
      rw [HQ.out] at hpw
      have hmul : ((p ^ d : Nat) : Int) * (p : Int) = ((p ^ d * p : Nat) : Int) := (Int.natCast_mul _ _).symm
      have HI0 : Hid (RelIv w p md d (.int .i64 ((0 : Nat) : Int)) wr) := ⟨0, Nat.zero_le _, rfl, rfl, HB.out⟩
      have HC1 : Hid (∀ (v : Nat) (wr : World), v ≤ 256 → Calls Tryz.prog 40 #[.int .i64 (v : Int), .int .i64 (p : Int), .int .i64 ((d + 1 : Nat) : Int)] wr fun e w' => e = .returned (.slice (some ⟨wr.heap.size, 0, none⟩) (d + 1) (d + 1)) ∧ Row w' wr.heap.size wr.heap.size (d + 1) (nz (digs p (d + 1) v)) ∧ Below wr.heap.size wr w') :=
        fun v wr hv => rdigits_c v p (d + 1) wr (by omega) (by omega) (by omega) (by omega)
      have HDL : Hid (∀ v : Nat, (digs p (d + 1) v).length = d + 1) := fun v => digs_len p (d + 1) v
      have HND1 : Hid ((List.range (p ^ (d + 1))).all (fun v => !dividesM p (digs p (d + 1) v) md) = true → (List.range (d + 1)).all (noDiv p md) = true) := fun h => by
        rw [range_all_succ, HALL.out]
        unfold noDiv
        rw [h]
        rfl
      have HIF : Hid ((List.range (p ^ (d + 1))).all (fun v => !dividesM p (digs p (d + 1) v) md) = false → irrM p md = false) := fun h => by
        rw [HIR.out]
        exact range_all_false _ hlt (k := d) h
      have h2d : 2 * (d + 1) ≤ md.length := by omega
      have h2i : 2 * ((d + 1 : Nat) : Int) ≤ (md.length : Int) := by omega
      have hd1 : 1 ≤ d + 1 := by omega
      have HDE : Hid (RelIr w p md (.int .i64 ((p ^ (d + 1) : Nat) : Int)) (.int .i64 ((d + 1 + 1 : Nat) : Int)) = RelIr w p md (.int .i64 ((p ^ (d + 1) : Nat) : Int)) (.int .i64 (((d + 1) + 1 : Nat) : Int))) := rfl
      have HIV : Hid (∀ v wr, RelIv w p md d v wr = ∃ x : Nat, x ≤ p ^ (d + 1) ∧ v = .int .i64 (x : Int) ∧ (List.range x).all (fun v => !dividesM p (digs p (d + 1) v) md) = true ∧ Below w.heap.size w wr) := fun _ _ => rfl
      have HNXT : Hid (∀ wr, (List.range (d + 1)).all (noDiv p md) = true → Below w.heap.size w wr → RelIr w p md (.int .i64 ((p ^ (d + 1) : Nat) : Int)) (.int .i64 (((d + 1 : Nat) : Int) + 1)) wr) := fun wr h1 h2 => ⟨d + 1, by omega, by rw [Int.natCast_add (d + 1) 1]; rfl, rfl, h1, h2⟩
      clear HDE
      generalize hqd : p ^ d = q at *
      generalize hqp : q * p = q2 at *
      have HQ2 : Hid (p ^ (d + 1) = q2) := HQ.out
      clear hqd hqp HQ
      generalize d + 1 = e at *
      go_wp2_with fail
      clear hmul
      go_loopw [7] (fun v7 wr => RelIv w p md d v7 wr) (fun v7 _ => q2 - (intOf v7).toNat)
      case atStart => exact HI0.out
      case round =>
        rw [HIV.out] at hrel
        obtain ⟨v, hv, rfl, hallv, hb⟩ := hrel
        have HALLV := Lib.hid hallv
        have HBV := Lib.hid hb
        rw [HQ2.out] at hv
        clear hallv hb HI0
        by_cases hlv : v < q2
        · have HC2 : Hid (∀ w1, Below wr.heap.size wr w1 → Row w1 wr.heap.size wr.heap.size e (nz (digs p e v)) → Calls Tryz.prog 39 #[.slice (some ⟨wr.heap.size, 0, none⟩) e e, .slice Am md.length cm, .int .i64 p] w1 fun e' w' => e' = .returned (.bool (dividesM p (digs p e v) md)) ∧ Below w1.heap.size w1 w') := fun w1 hb1 hr1 => by
            have hdl := HDL.out v
            have := rdivides_c p (digs p e v) md (some ⟨wr.heap.size, 0, none⟩) Am e cm w1 hp hp2 (hr1.ints hr1.lt.2) (((HM.out.keep HBV.out).more HBV.out.size).grow (Nat.le_refl _) hb1 |>.more hb1.size) ⟨rfl, digs_lt (by omega) _ _⟩ HDM.out (by rw [hdl]; omega) (by rw [hdl]; omega) hml
            rw [hdl] at this
            exact this
          have HRS := Lib.hid (range_all_succ (fun v => !dividesM p (digs p e v) md) v)
          have HRF : Hid (dividesM p (digs p e v) md = true → irrM p md = false) := fun h => by
            refine HIF.out ?_
            exact range_all_false _ (by rw [HQ2.out]; exact hlv) (by rw [h]; rfl)
          have HC1v := Lib.hid (HC1.out v wr (by omega))
          go_wp2_with fail
          (with_reducible refine HC1v.out.mono ?_)
          rintro e1 w1 ⟨rfl, hr1, hb1⟩
          have HC3 := Lib.hid (HC2.out w1 hb1 hr1)
          have HB1 := Lib.hid (HBV.out.trans (hb1.mono HBV.out.size))
          clear hr1 hb1 HC1v HC2
          generalize dividesM p (digs p e v) md = bb at *
          go_wp2_with fail
          (with_reducible refine HC3.out.mono ?_)
          rintro e2 w2 ⟨rfl, hb2⟩
          have HB2 := Lib.hid (HB1.out.trans (hb2.mono HB1.out.size))
          clear hb2 HC3
          cases bb
          · go_wp2_with fail
            go_roundw
            case rel => rw [HIV.out]; exact ⟨v + 1, by rw [HQ2.out]; omega, by go_num, by rw [HRS.out, HALLV.out]; rfl, HB2.out⟩
            case measure => simp [intOf]; omega
          · have HN := Lib.hid (HRF.out rfl)
            go_wp2_with fail
            go_ret
            exact ⟨ret_bool HN.out.symm, HB2.out⟩
        · obtain rfl : v = q2 := by omega
          have HND := Lib.hid (HNXT.out wr (HND1.out (by rw [HQ2.out]; exact HALLV.out)) HBV.out)
          rw [HQ2.out] at HND
          go_wp2_with fail
          go_roundw
          case rel => exact HND.out
          case measure => simp [intOf]; omega
    · obtain rfl : d = md.length / 2 := by omega
      have HT : Hid (irrM p md = true) := by show _ = _; rw [HIR.out]; exact HALL.out
      have h2d : md.length < 2 * (md.length / 2 + 1) := by omega
      have h2e : md.length / 2 ≤ 4 := by omega
      generalize md.length / 2 = d at *
      have h2i : ¬ 2 * ((d + 1 : Nat) : Int) ≤ (md.length : Int) := by omega
      have hdec : decide (2 * ((d + 1 : Nat) : Int) ≤ (md.length : Int)) = false := decide_eq_false h2i
      have he9 : d + 1 ≤ 9 := by omega
      clear h2d
      generalize p ^ d = q at *
      generalize d + 1 = e at *
      go_wp2_with fail
      go_ret
      exact ⟨ret_bool HT.out.symm, HB.out⟩
#print axioms rirr_c
end Go.Proofs.YtcfejnnhcdlffaaGreat
