/-
  derive.divisible: true only where the rows prove it.
-/
import Derived.Test.YthiackegnpnmbaaGreatQ21
import Derived.Test.YthiackegnpnmbaaGreatQ19
namespace Go.Proofs.YthiackegnpnmbaaGreat
open Go.RowKit Pln

theorem gorder_e (gb B p m : Nat) (l lg : List Nat) (w : World) (hG : GFAt w B gb p m l lg) :
    Calls Tryz.prog 120 #[.pointer (some ⟨gb, 0, none⟩)] w fun e w' => e = .returned (.int .i64 ((p ^ m : Nat) : Int)) ∧ w = w' := by
  obtain ⟨_, _, _, _, _, _, _, _, h3, _, _, _, _⟩ := hG.cells
  generalize p ^ m = q at *
  clear hG
  go_enter Tryz.func120, Tryz.ntmps120
  go_wp2_with fail
  go_ret
  exact ⟨rfl, rfl⟩
theorem wt_append : ∀ u v : List Nat, Dv.wt (u ++ v) = Dv.wt u + Dv.wt v
  | [], v => by simp [Dv.wt]
  | x :: r, v => by
    show (if x = 0 then 0 else 1) + Dv.wt (r ++ v) = (if x = 0 then 0 else 1) + Dv.wt r + Dv.wt v
    rw [wt_append r v, Nat.add_assoc]
theorem wt_take {v : List Nat} {j : Nat} (hj : j < v.length) : Dv.wt (v.take (j + 1)) = Dv.wt (v.take j) + if v.getD j 0 = 0 then 0 else 1 := by
  rw [List.take_add_one, List.getElem?_eq_getElem hj, wt_append]
  have e : v.getD j 0 = v[j] := by simp [List.getD, hj]
  rw [e]
  simp [Dv.wt]
theorem wt_le : ∀ v : List Nat, Dv.wt v ≤ v.length
  | [] => by simp [Dv.wt]
  | x :: r => by
    have := wt_le r
    unfold Dv.wt
    rw [List.length_cons]
    split <;> omega
/-- Two or three elements: the field is that of the numbers. -/
theorem pow23 {p m q : Nat} (hp : 2 ≤ p) (hm : 1 ≤ m) (h : p ^ m = q) (hq : q = 2 ∨ q = 3) : m = 1 ∧ p = q := by
  have hm1 : m = 1 := by
    by_cases h2 : 2 ≤ m
    · have h4 : 2 ^ 2 ≤ p ^ m := Nat.le_trans (Nat.pow_le_pow_right (by decide) h2) (Nat.pow_le_pow_left hp m)
      omega
    · omega
  subst hm1
  exact ⟨rfl, by simpa using h⟩
def DvC (q m' : Nat) : Prop := q = 2 ∧ (m' = 2 ∨ m' = 4) ∨ q = 3 ∧ m' = 3
def RelDvi (W : World) (q m' : Nat) (rows : List (List Nat)) (v45 : Value) (g : Nat) (wr : World) : Prop :=
  ∃ i : Nat, i + g = rows.length ∧ v45 = .int .i64 i ∧ Below W.heap.size W wr ∧ (∀ j, j < i → Dv.wt (rows.getD j []) % m' = 0) ∧ (2 < m' → ∀ j l, j < i → l < j → Dv.dot (rows.getD j []) (rows.getD l []) % q = 0)
def RelWt (W : World) (r : List Nat) (v10 v52 : Value) (g : Nat) (wr : World) : Prop :=
  ∃ j : Nat, j + g = r.length ∧ v52 = .int .i64 j ∧ v10 = .int .i64 ((Dv.wt (r.take j) : Nat) : Int) ∧ wr = W
def RelDt (W : World) (q m' : Nat) (rows : List (List Nat)) (r : List Nat) (i : Nat) (v70 : Value) (g : Nat) (wr : World) : Prop :=
  ∃ j : Nat, j + g = i ∧ v70 = .int .i64 j ∧ Below W.heap.size W wr ∧ (2 < m' → ∀ l, l < j → Dv.dot r (rows.getD l []) % q = 0)
theorem div_of {q m' : Nat} {rows : List (List Nat)} (hc : DvC q m') (h1 : ∀ j, j < rows.length → Dv.wt (rows.getD j []) % m' = 0) (h2 : 2 < m' → ∀ j l, j < rows.length → l < j → Dv.dot (rows.getD j []) (rows.getD l []) % q = 0) : Dv.Div q m' rows := by
  have hg : ∀ i (hi : i < rows.length), rows.getD i [] = rows[i] := fun i hi => by simp [List.getD, hi]
  refine ⟨hc, fun r hr => ?_, fun h i j hi hj => ?_⟩
  · obtain ⟨j, hj, rfl⟩ := List.getElem_of_mem hr
    rw [← hg j hj]
    exact h1 j hj
  · rw [← hg i hi, ← hg j (by omega)]
    exact h2 h i j hi hj

def DivPost (w : World) (qq : Nat) (mm : Int) (rows : List (List Nat)) (e : Ending) (w' : World) : Prop :=
  ∃ b, e = .returned (.bool b) ∧ Below w.heap.size w w' ∧ (b = true → ∃ q m' : Nat, qq = q ∧ mm = m' ∧ Dv.Div q m' rows)

set_option maxHeartbeats 8000000 in
set_option maxRecDepth 100000 in
theorem divisible_c (p m : Int) (mod : List Int) (Am : Option Addr) (cm : Nat) (N : Int) (rows : List (List Nat)) (Ag : Option Addr) (cg : Nat) (mm : Int) (w : World) (hM : IntsAt w w.heap.size Am mod) (hok : fieldOK p m mod = true)
    (hA : RowsAt w w.heap.size Ag (nzs rows)) (hgr : Grid (p.toNat ^ m.toNat) rows.length N.toNat rows) (hN : N.toNat ≤ 64) (hn : rows.length ≤ 256) (hcap : rows.length ≤ cg) :
    Calls Tryz.prog 65 #[.agg #[.int .i64 p, .int .i64 m, .slice Am mod.length cm, .int .i64 N, .slice Ag rows.length cg], .int .i64 mm] w (DivPost w (p.toNat ^ m.toNat) mm rows) := by
  have HX : Hid (SBoxC w [.int .i64 p, .int .i64 m, .slice Am mod.length cm, .int .i64 N, .slice Ag rows.length cg] (w.alloc (.cells #[.int .i64 p, .int .i64 m, .slice Am mod.length cm, .int .i64 N, .slice Ag rows.length cg] 30))) := ⟨heap_alloc_new _ _, (Below.refl _ _).alloc (Nat.le_refl _) _, by simp⟩
  have HM := Lib.hid hM
  have HA := Lib.hid hA
  have hft := field_ft hok
  have HFT : Hid (∀ q : Nat, p.toNat ^ m.toNat = q → q = 2 ∨ q = 3 → Dv.Ar q (opsT p.toNat m.toNat (lOf p m mod))) := fun q hq h23 => by
    obtain ⟨e1, e2⟩ := pow23 hft.small.p1 hft.small.m1 hq h23
    have hm1 : m = 1 := by omega
    have h := hft
    have hmd : mdOf m mod = [0] := by unfold mdOf; rw [if_pos hm1]
    rw [hmd, e1, e2] at h
    have := Dv.ar_tab h23 h
    rw [e1, e2]
    exact this
  have HGR := Lib.hid hgr
  have HOK := Lib.hid hok
  have HF := Lib.hid hft
  clear hM hA hgr hok hft
  go_enter Tryz.func65, Tryz.ntmps65
  go_upto_region 1 with fail
  generalize (w.alloc (.cells #[.int .i64 p, .int .i64 m, .slice Am mod.length cm, .int .i64 N, .slice Ag rows.length cg] 30)) = W0 at *
  have HRF : Hid (W0.rangeAt w.heap.size 0 [.int .i64 p, .int .i64 m, .slice Am mod.length cm]) := HX.out.range3
  have HC := Lib.hid (fnew_ok p m mod Am cm W0 ((HM.out.keep HX.out.2.1).more HX.out.2.1.size) HOK.out)
  go_wp2_with (refine wpList_load_mid rfl 27 (.tmp 16) rfl w.heap.size 0 rfl [.int .i64 p, .int .i64 m, .slice Am mod.length cm] _ HRF.out Tryz.underlying27 rfl fieldSize ?_)
  refine HC.out.mono ?_
  rintro e w1 ⟨⟨gb, rfl, hgb, hg⟩, hb1⟩
  have HX1 := Lib.hid (HX.out.grow hb1)
  have HG : Hid (GFAt w1 w1.heap.size gb p.toNat m.toNat (lOf p m mod) (logL (lOf p m mod) (p.toNat ^ m.toNat))) := hg
  clear hb1 hg hgb HC HRF HX HM HOK
  have HO := Lib.hid (gorder_e gb w1.heap.size p.toNat m.toNat _ _ w1 HG.out)
  go_wp2_with fail
  refine HO.out.mono ?_
  rintro e w2 ⟨rfl, rfl⟩
  have HQ : Hid (∃ q : Nat, p.toNat ^ m.toNat = q) := ⟨_, rfl⟩
  obtain ⟨q, hq⟩ := HQ.out
  rw [hq]
  clear HO HQ
  go_upto_region 3 with fail
  go_cut [41] (fun c wx => ∃ bb, c = .bool bb ∧ (bb = false → ∃ m' : Nat, mm = m' ∧ DvC q m') ∧ wx = w1)
  case first =>
    clear HX1 HG HF HFT HGR HA
    by_cases q2 : q = 2
    · subst q2
      by_cases m2 : mm = 2
      · subst m2
        go_wp2_with fail
        go_meet
        exact ⟨_, rfl, fun _ => ⟨2, rfl, .inl ⟨rfl, .inl rfl⟩⟩, rfl⟩
      · have e2 : (mm == 2) = false := beq_false_of_ne m2
        by_cases m4 : mm = 4
        · subst m4
          go_wp2_with fail
          go_meet
          exact ⟨_, rfl, fun _ => ⟨4, rfl, .inl ⟨rfl, .inr rfl⟩⟩, rfl⟩
        · have e4 : (mm == 4) = false := beq_false_of_ne m4
          go_wp2_with fail
          go_meet
          exact ⟨_, rfl, fun h => (by cases h), rfl⟩
    · have e2 : ((q : Int) == 2) = false := beq_false_of_ne (by omega)
      by_cases q3 : q = 3
      · subst q3
        by_cases m3 : mm = 3
        · subst m3
          go_wp2_with fail
          go_meet
          exact ⟨_, rfl, fun _ => ⟨3, rfl, .inr ⟨rfl, rfl⟩⟩, rfl⟩
        · have e3 : (mm == 3) = false := beq_false_of_ne m3
          go_wp2_with fail
          go_meet
          exact ⟨_, rfl, fun h => (by cases h), rfl⟩
      · have e3 : ((q : Int) == 3) = false := beq_false_of_ne (by omega)
        go_wp2_with fail
        go_meet
        exact ⟨_, rfl, fun h => (by cases h), rfl⟩
  case rest =>
    obtain ⟨bb, rfl, hgd, rfl⟩ := hcut
    cases bb
    case true =>
      go_wp2_with fail
      go_ret
      exact ⟨_, rfl, HX1.out.2.1, fun h => by cases h⟩
    case false =>
      obtain ⟨m', rfl, hdc⟩ := hgd rfl
      have HAR := Lib.hid (HFT.out q hq (by unfold DvC at hdc; omega))
      have HDC := Lib.hid hdc
      have hm0 : 2 ≤ m' ∧ m' ≤ 4 := by unfold DvC at hdc; omega
      have HA1 : Hid (RowsAt wc w.heap.size Ag (nzs rows)) := HA.out.keep HX1.out.2.1
      have HB1 := Lib.hid HX1.out.2.1
      have hac : wc.cell? ⟨w.heap.size, 4, none⟩ = some (.slice Ag rows.length cg) := HX1.out.range 4 _ rfl
      go_upto_region 6 with fail
      clear hac
      go_loopg [45] rows.length (fun g v wr => RelDvi wc q m' rows v g wr)
      case atStart => exact ⟨0, by omega, rfl, Below.refl _ _, fun j hj => by omega, fun _ j l hj => by omega⟩
      case round =>
        obtain ⟨i, hig, rfl, hb, hw1, hd1⟩ := hrel
        have HBR := Lib.hid hb
        have HW1 := Lib.hid hw1
        have HD1 := Lib.hid hd1
        have HXB := Lib.hid (HX1.out.grow hb)
        clear hb hw1 hd1 HX1
        have hsz := HB1.out.size
        by_cases hi : i < rows.length
        · obtain ⟨b, o, Ai, ci, haa, hbb, hc, hr⟩ := (HA1.out.keep (HBR.out.mono hsz)).at_ (i := i) (by rw [nzs_len]; exact hi)
          rw [nzs_getD, nz_len] at hc
          rw [nzs_getD] at hr
          have HROW := Lib.hid hr
          have hrr : rows.getD i [] ∈ rows := by
            have : rows.getD i [] = rows[i] := by simp [List.getD, hi]
            rw [this]
            exact List.getElem_mem hi
          obtain ⟨hrl, hrq⟩ := HGR.out.2 _ hrr
          have HRQ := Lib.hid hrq
          have HRL := Lib.hid hrl
          have hrl2 : (rows.getD i []).length ≤ 64 := by omega
          clear hr hrr hrl hrq
          generalize hri : rows.getD i [] = r at *
          have HRI := Lib.hid hri
          clear hri
          have i0 : (0 : Int) ≤ (i : Int) := by omega
          have i1 : (i : Int) < (rows.length : Int) := by omega
          have hwi : IntKind.i64.wrap ((i : Int) + 1) = (i : Int) + 1 := IntWalk.i64_in _ (by omega)
          subst haa
          go_upto_region 10 with fail
          clear hc
          obtain ⟨wo, rfl⟩ : ∃ w', w' = wr := ⟨_, rfl⟩
          have HIG := Lib.hid hig
          clear hig
          go_loopg [10, 52] r.length (fun g v10 v52 wr => RelWt wo r v10 v52 g wr)
          case atStart => exact ⟨0, by omega, rfl, rfl, rfl⟩
          case round =>
            obtain ⟨j, hjg, rfl, rfl, rfl⟩ := hrel
            have hwl : Dv.wt (r.take j) ≤ 64 := Nat.le_trans (wt_le _) (by rw [List.length_take]; omega)
            by_cases hj : j < r.length
            · obtain ⟨b2, o2, ha2, hb2, hc2⟩ := HROW.out.at_ (k := j) (by rw [nz_len]; exact hj)
              rw [nz_getD] at hc2
              have HWT := Lib.hid (wt_take hj)
              have j0 : (0 : Int) ≤ (j : Int) := by omega
              have j1 : (j : Int) < (r.length : Int) := by omega
              have hwj : IntKind.i64.wrap ((j : Int) + 1) = (j : Int) + 1 := IntWalk.i64_in _ (by omega)
              have hww : IntKind.i64.wrap (((Dv.wt (r.take j) : Nat) : Int) + 1) = ((Dv.wt (r.take j) : Nat) : Int) + 1 := IntWalk.i64_in _ (by omega)
              subst ha2
              by_cases hx : r.getD j 0 = 0
              · rw [if_pos hx] at HWT
                rw [hx] at hc2
                clear hx
                go_wp2_with fail
                go_roundg (r.length - (j + 1))
                case measure => omega
                case rel => exact ⟨j + 1, by omega, by go_num, by rw [HWT.out]; rfl, rfl⟩
              · rw [if_neg hx] at HWT
                have hx1 : (((r.getD j 0 : Nat) : Int) != 0) = true := by simpa using hx
                generalize r.getD j 0 = x at *
                go_wp2_with fail
                go_roundg (r.length - (j + 1))
                case measure => omega
                case rel => exact ⟨j + 1, by omega, by go_num, by rw [HWT.out]; go_num, rfl⟩
            · have hje : j = r.length := by omega
              subst hje
              have j1 : ¬ (r.length : Int) < (r.length : Int) := by omega
              rw [List.take_length] at hwl ⊢
              have hrem : Int.tmod ((Dv.wt r : Nat) : Int) (m' : Int) = ((Dv.wt r % m' : Nat) : Int) := tmod_nat _ _
              have hm1 : ¬ (m' : Int) = 0 := by omega
              have hm2 : ¬ m' = 0 := by omega
              have hm3 : ((m' : Int) == 0) = false := beq_false_of_ne hm1
              by_cases hz : Dv.wt r % m' = 0
              · have HWZ := Lib.hid hz
                have hz1 : (((Dv.wt r % m' : Nat) : Int) != 0) = false := by simp [hz]
                have hac : wr.cell? ⟨w.heap.size, 4, none⟩ = some (.slice (some ⟨b, o, none⟩) rows.length cg) := HXB.out.range 4 _ rfl
                have hi1 : (i : Int) ≤ (cg : Int) := by omega
                have hi2 : i ≤ cg := by omega
                generalize Dv.wt r % m' = z at hrem hz1
                go_upto_region 18 with fail
                clear hac hrem hz hz1 hwl
                obtain ⟨wp, rfl⟩ : ∃ w', w' = wr := ⟨_, rfl⟩
                go_loopg [70] i (fun g v wr => RelDt wp q m' rows r i v g wr)
                case atStart => exact ⟨0, by omega, rfl, Below.refl _ _, fun _ l hl => by omega⟩
                case round =>
                  obtain ⟨j, hjg, rfl, hb3, hdj⟩ := hrel
                  have HB3 := Lib.hid hb3
                  have HDJ := Lib.hid hdj
                  have HBA := Lib.hid (HBR.out.trans (hb3.mono HBR.out.size))
                  clear hb3 hdj
                  by_cases hj : j < i
                  · obtain ⟨b4, o4, Aj, cj, ha4, hb4, hc4, hr4⟩ := (HA1.out.keep (HBA.out.mono hsz)).at_ (i := j) (by rw [nzs_len]; omega)
                    rw [nzs_getD, nz_len] at hc4
                    rw [nzs_getD] at hr4
                    have hjl : j < rows.length := by omega
                    have hrr : rows.getD j [] ∈ rows := by
                      have : rows.getD j [] = rows[j] := by simp [List.getD, hjl]
                      rw [this]
                      exact List.getElem_mem hjl
                    obtain ⟨hrl, hrq⟩ := HGR.out.2 _ hrr
                    generalize hrj : rows.getD j [] = rj at *
                    have HRJ := Lib.hid hrj
                    clear hrj
                    injection ha4 with ha4
                    injection ha4 with e1 e2
                    subst e1
                    subst e2
                    have j0 : (0 : Int) ≤ (j : Int) := by omega
                    have j1 : (j : Int) < (i : Int) := by omega
                    have hwj : IntKind.i64.wrap ((j : Int) + 1) = (j : Int) + 1 := IntWalk.i64_in _ (by omega)
                    by_cases h2 : 2 < m'
                    · have h2i : (2 : Int) < (m' : Int) := by omega
                      have hlen4 : rj.length = r.length := by rw [hrl, HRL.out]
                      have HDT := Lib.hid (dot_c gb p.toNat m.toNat wc.heap.size (mdOf m mod) (lOf p m mod) r rj Ai Aj ci cj wr HF.out (HG.out.keep HBA.out) hlen4 HRQ.out hrq (((HROW.out.keep (HB3.out.mono (by have := HBR.out.size; omega))).more hsz)) (hr4.more hsz) (by omega))
                      have hdv : Dv.dotO (opsT p.toNat m.toNat (lOf p m mod)) 0 r rj = Dv.dot r rj % q := by
                        have h := Dv.dotO_ar HAR.out r rj 0 (by rw [← hq]; exact HRQ.out) (by rw [← hq]; exact hrq) HAR.out.pos
                        rw [h, Nat.zero_add]
                      rw [hdv] at HDT
                      rw [hlen4] at hc4
                      clear hdv hrr hrl hrq hr4 hlen4
                      generalize hdd : Dv.dot r rj % q = dd at *
                      have HDD := Lib.hid hdd
                      clear hdd
                      go_wp2_with fail
                      refine HDT.out.mono ?_
                      rintro e w3 ⟨rfl, nq, rfl⟩
                      have HB4 : Hid (Below wp.heap.size wp (wr.drewN nq)) := below_drewN HB3.out nq
                      clear HDT hc4
                      generalize wr.drewN nq = wd at *
                      by_cases hd0 : dd = 0
                      · subst hd0
                        have HNX : Hid (2 < m' → ∀ l, l < j + 1 → Dv.dot r (rows.getD l []) % q = 0) := fun h l hl => by
                          rcases Nat.lt_or_ge l j with h1 | h1
                          · exact HDJ.out h l h1
                          · obtain rfl : l = j := by omega
                            rw [HRJ.out]
                            exact HDD.out
                        go_wp2_with fail
                        go_roundg (i - (j + 1))
                        case measure => omega
                        case rel => exact ⟨j + 1, by omega, by go_num, HB4.out, HNX.out⟩
                      · have hd1 : ((dd : Int) != 0) = true := by simpa using hd0
                        go_wp2_with fail
                        go_ret
                        exact ⟨_, rfl, HB1.out.trans ((HBR.out.trans (HB4.out.mono HBR.out.size)).mono hsz), fun h => by cases h⟩
                    · have h2i : ¬ (2 : Int) < (m' : Int) := by omega
                      clear hrr hrl hrq hr4
                      go_wp2_with fail
                      go_roundg (i - (j + 1))
                      case measure => omega
                      case rel => exact ⟨j + 1, by omega, by go_num, HB3.out, fun h => absurd h h2⟩
                  · have j1 : ¬ (j : Int) < (i : Int) := by omega
                    have hje : j = i := by omega
                    have HN1 : Hid (∀ l, l < i + 1 → Dv.wt (rows.getD l []) % m' = 0) := fun l hl => by
                      rcases Nat.lt_or_ge l i with h1 | h1
                      · exact HW1.out l h1
                      · obtain rfl : l = i := by omega
                        rw [HRI.out]
                        exact HWZ.out
                    have HN2 : Hid (2 < m' → ∀ a l, a < i + 1 → l < a → Dv.dot (rows.getD a []) (rows.getD l []) % q = 0) := fun h a l ha hl => by
                      rcases Nat.lt_or_ge a i with h1 | h1
                      · exact HD1.out h a l h1 hl
                      · obtain rfl : a = i := by omega
                        rw [HRI.out]
                        exact HDJ.out h l (by omega)
                    go_wp2_with fail
                    go_roundg (rows.length - (i + 1))
                    case measure => have := HIG.out; omega
                    case rel => exact ⟨i + 1, by have := HIG.out; omega, by go_num, HBA.out, HN1.out, HN2.out⟩
              · generalize Dv.wt r % m' = z at *
                have hz1 : ((z : Int) != 0) = true := bne_iff_ne.2 (by omega)
                go_wp2_with fail
                go_ret
                exact ⟨_, rfl, HB1.out.trans (HBR.out.mono hsz), fun h => by cases h⟩
        · have i1 : ¬ (i : Int) < (rows.length : Int) := by omega
          have hie : i = rows.length := by omega
          subst hie
          go_wp2_with fail
          go_ret
          exact ⟨_, rfl, HB1.out.trans (HBR.out.mono hsz), fun _ => ⟨q, m', rfl, rfl, div_of HDC.out HW1.out HD1.out⟩⟩
end Go.Proofs.YthiackegnpnmbaaGreat

