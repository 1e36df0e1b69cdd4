/-
  matrix.Kernel where nothing is wrong.
-/
import Derived.Test.YthiackegnpnmbaaGreatQ40
namespace Go.Proofs.YthiackegnpnmbaaGreat
open Go.RowKit Pln

theorem mem_nz {x : Nat} {l : List Nat} : ((x : Int) ∈ nz l) ↔ x ∈ l := by
  unfold nz
  constructor
  · intro h
    obtain ⟨y, hy, e⟩ := List.mem_map.1 h
    have : y = x := by omega
    rwa [← this]
  · intro h
    exact List.mem_map.2 ⟨x, h, rfl⟩

set_option maxHeartbeats 4000000 in
set_option maxRecDepth 100000 in
theorem kernel_c (p m : Int) (mod : List Int) (Am : Option Addr) (cm : Nat) (cols : Nat) (rows : List (List Nat)) (A : Option Addr) (c : Nat) (w : World) (hM : IntsAt w w.heap.size Am mod) (hl : mod.length ≤ 9223372036854775807)
    (hA : RowsAt w w.heap.size A (nzs rows)) (h1 : 1 ≤ cols) (herr : errC p m mod cols (nzs rows) = 0) :
    Calls Tryz.prog 156 #[.agg #[.int .i64 p, .int .i64 m, .slice Am mod.length cm], .agg #[.int .i64 (cols : Int), .slice A rows.length c]] w (MatPost w cols (kerM (opsT p.toNat m.toNat (lOf p m mod)) rows cols)) := by
  obtain ⟨hok, hz, hgr, _, hc1, hn⟩ := errC_grid herr
  rw [Int.toNat_natCast] at hgr
  have hF := field_ft hok
  have E := opsT_self hF
  have hq1 : 1 < p.toNat ^ m.toNat := by have h1 := hF.small.p1; have h2 := hF.small.m1; exact Nat.one_lt_pow (by omega) (by omega)
  obtain ⟨i0, hi, hz0, hz1, hz2⟩ := info_parts infoInt
  obtain ⟨i00, hi', hz0', hz1', hz2'⟩ := info_parts infoInts
  have HI := Lib.hid hi
  have HZ0 := Lib.hid hz0
  have HZ1 := Lib.hid hz1
  have HI' := Lib.hid hi'
  have HZ0' := Lib.hid hz0'
  have HZ1' := Lib.hid hz1'
  have HZ2' := Lib.hid hz2'
  have HB2 := Lib.hid (show i0.bytes * cols ≤ 281474976710656 by rw [hz2]; omega)
  have HB3 := Lib.hid (show cols ≤ maxLen by unfold maxLen; omega)
  have HX := Lib.hid ((box3 w p m Am mod.length cm cols A rows.length c 53 #[.int .i64 0, .slice none 0 0]).keep ((Below.refl _ _).alloc (Nat.le_refl _) (.cells #[.int .i64 (cols : Int), .slice A rows.length c] 53)))
  have HK3 : Hid (((((w.alloc (.cells #[.int .i64 p, .int .i64 m, .slice Am mod.length cm] 27)).alloc (.cells #[.int .i64 (cols : Int), .slice A rows.length c] 53)).alloc (.cells #[.int .i64 0, .slice none 0 0] 53)).alloc (.cells #[.int .i64 (cols : Int), .slice A rows.length c] 53)).heap[w.heap.size + 1 + 1 + 1]? = some (.cells #[.int .i64 (cols : Int), .slice A rows.length c] 53 (0, 0))) := alloc_at (by simp) _
  have HM := Lib.hid hM
  have HA := Lib.hid hA
  have HFT := Lib.hid hF
  have HGR := Lib.hid hgr
  have HCGR := Lib.hid (canon_grid E hgr)
  have HPL : Hid (∀ i, i < (elGo (opsT p.toNat m.toNat (lOf p m mod)) rows cols).piv.length → (elGo (opsT p.toNat m.toNat (lOf p m mod)) rows cols).piv.getD i 0 < cols) := fun i hi => by
    have : ∀ (l : List Nat) (hj : i < l.length), l.getD i 0 = l[i] := fun l hj => by simp [List.getD, hj]
    rw [this _ hi]
    exact elGo_piv_lt _ _ _ _ (List.getElem_mem _)
  have HKG := Lib.hid (kerRows_grid (piv := (elGo (opsT p.toNat m.toNat (lOf p m mod)) rows cols).piv) E hq1 (canon_grid E hgr) rfl)
  have HKL := Lib.hid (kerRows_len (opsT p.toNat m.toNat (lOf p m mod)) (canonM (opsT p.toNat m.toNat (lOf p m mod)) rows cols) (elGo (opsT p.toNat m.toNat (lOf p m mod)) rows cols).piv cols)
  have HKA := Lib.hid (kerRows_at (opsT p.toNat m.toNat (lOf p m mod)) (canonM (opsT p.toNat m.toNat (lOf p m mod)) rows cols) (elGo (opsT p.toNat m.toNat (lOf p m mod)) rows cols).piv cols)
  have HCML := Lib.hid (canonM_len (opsT p.toNat m.toNat (lOf p m mod)) rows cols)
  have HKM : Hid (kerM (opsT p.toNat m.toNat (lOf p m mod)) rows cols = canonM (opsT p.toNat m.toNat (lOf p m mod)) (kerRows (opsT p.toNat m.toNat (lOf p m mod)) (canonM (opsT p.toNat m.toNat (lOf p m mod)) rows cols) (elGo (opsT p.toNat m.toNat (lOf p m mod)) rows cols).piv cols) cols) := rfl
  have HPN := Lib.hid (elGo_piv (O := opsT p.toNat m.toNat (lOf p m mod)) rows cols)
  have HFL : Hid ((freeC (elGo (opsT p.toNat m.toNat (lOf p m mod)) rows cols).piv cols).length ≤ cols) := freeC_le _ _
  clear hM hA hi hz0 hz1 hz2 hi' hz0' hz1' hz2' hF E herr
  generalize kerM (opsT p.toNat m.toNat (lOf p m mod)) rows cols = out at *
  go_enter Tryz.func156, Tryz.ntmps156
  go_wp2_with fail
  generalize (((w.alloc (.cells #[.int .i64 p, .int .i64 m, .slice Am mod.length cm] 27)).alloc (.cells #[.int .i64 (cols : Int), .slice A rows.length c] 53)).alloc (.cells #[.int .i64 0, .slice none 0 0] 53)).alloc (.cells #[.int .i64 (cols : Int), .slice A rows.length c] 53) = W0 at *
  have hlz' : (nzs rows).length ≤ 9223372036854775807 := by rw [nzs_len]; omega
  have HC := Lib.hid (open_c p m mod Am cm cols (nzs rows) A c (w.heap.size + 1 + 1 + 1) 1 W0 ((HM.out.keep HX.out.below).more HX.out.below.size) hl ((HA.out.keep HX.out.below).more HX.out.below.size) hlz' (by rw [nzs_len]; exact HK3.out))
  (with_reducible refine HC.out.mono ?_)
  rintro e w1 ⟨hb1, hcase⟩
  have HX1 := Lib.hid (HX.out.keep hb1)
  have HA1 := Lib.hid ((HA.out.keep HX1.out.below).more HX1.out.below.size)
  clear HX HM HA HC HK3 hb1
  clear W0
  rcases hcase with ⟨hok', _⟩ | ⟨_, hz', _⟩ | ⟨_, _, gb, rfl, hg⟩
  · rw [hok] at hok'; cases hok'
  · exact absurd hz hz'
  clear hok hz
  have HG := Lib.hid hg
  have HCA := Lib.hid (canon2_c gb w1.heap.size p.toNat m.toNat cols (mdOf m mod) (lOf p m mod) rows A c w1 HFT.out hg (Nat.le_refl _) HA1.out HGR.out h1 (by omega) hn)
  have hs1 := HX1.out.size
  have hs2 : w.heap.size + 1 < w1.heap.size := by omega
  have a0 : w1.cell? ⟨w.heap.size + 1, 0, none⟩ = some (.int .i64 (cols : Int)) := cell_of_row _ _ 0 _ _ _ HX1.out.k1
  have a1 : w1.cell? ⟨w.heap.size + 1, 1, none⟩ = some (.slice A rows.length c) := cell_of_row _ _ 1 _ _ _ HX1.out.k1
  clear hg HA1
  have HNEG : Hid (∀ (B : Nat) (W : World) (x : Nat), GFAt W B gb p.toNat m.toNat (lOf p m mod) (logL (lOf p m mod) (p.toNat ^ m.toNat)) → x < p.toNat ^ m.toNat → Calls Tryz.prog 132 #[.pointer (some ⟨gb, 0, none⟩), .int .i64 (x : Int)] W (Quiet (.int .i64 (((opsT p.toNat m.toNat (lOf p m mod)).neg x : Nat) : Int)) W)) := fun B W x hG hx => neg_c x gb p.toNat m.toNat B _ _ W HFT.out.small hG hx
  have HCA2 : Hid (∀ (W : World) (kr : List (List Nat)) (VO : Option Addr) (co : Nat), GFAt W W.heap.size gb p.toNat m.toNat (lOf p m mod) (logL (lOf p m mod) (p.toNat ^ m.toNat)) → RowsAt W W.heap.size VO (nzs kr) → Grid (p.toNat ^ m.toNat) kr.length cols kr → kr.length ≤ 256 → Calls Tryz.prog 194 #[.pointer (some ⟨gb, 0, none⟩), .slice VO kr.length co, .int .i64 (cols : Int)] W fun e w' => (∃ (R : Nat) (VA : Option Addr) (ck : Nat), e = .returned (.tuple #[.slice (some ⟨R, 0, none⟩) (canonM (opsT p.toNat m.toNat (lOf p m mod)) kr cols).length (canonM (opsT p.toNat m.toNat (lOf p m mod)) kr cols).length, .slice VA (canonM (opsT p.toNat m.toNat (lOf p m mod)) kr cols).length ck]) ∧ RowsUp w' W.heap.size (some ⟨R, 0, none⟩) (nzs (canonM (opsT p.toNat m.toNat (lOf p m mod)) kr cols))) ∧ Below W.heap.size W w') := fun W kr VO co hG hA hgr hn =>
    (canon2_c gb W.heap.size p.toNat m.toNat cols (mdOf m mod) (lOf p m mod) kr VO co W HFT.out hG (Nat.le_refl _) hA hgr h1 (by omega) hn).mono fun e w' ⟨⟨R, VA, ck, h1, h2, _⟩, h3⟩ => ⟨⟨R, VA, ck, h1, h2⟩, h3⟩
  generalize opsT p.toNat m.toNat (lOf p m mod) = O at *
  generalize (elGo O rows cols).piv = piv at *
  generalize canonM O rows cols = cr at *
  generalize hkr : kerRows O cr piv cols = kr at *
  have HKR := Lib.hid hkr
  clear hkr
  go_wp2_with fail
  (with_reducible refine HCA.out.mono ?_)
  rintro e w2 ⟨⟨R, VA, ck, rfl, hru, hpv⟩, hb2⟩
  have HX2 := Lib.hid (HX1.out.keep hb2)
  have HRU := Lib.hid hru.rowsAt
  have HPV := Lib.hid hpv.ints
  have HG2 := Lib.hid ((HG.out.keep hb2).more hb2.size)
  have hws := hb2.size
  have hs3 : w.heap.size + 1 < w2.heap.size := by omega
  clear HX1 HCA hru hpv HG a0 a1
  have a0 : w2.cell? ⟨w.heap.size + 1, 0, none⟩ = some (.int .i64 (cols : Int)) := cell_of_row _ _ 0 _ _ _ HX2.out.k1
  have HL0 : Hid (RelKer w2 piv cols kr (.slice none 0 0) (.int .i64 ((0 : Nat) : Int)) w2) := ⟨0, [], by omega, rfl, ⟨rfl, Nat.zero_le _, World.ownsRow_nil _ _ _ _, fun i hi => by simp [freeC] at hi, fun i hi => by simp [freeC] at hi⟩, Below.refl _ _⟩
  clear hb2
  go_wp2_with fail
  go_loopw [10, 37] (fun v10 v37 wr => RelKer w2 piv cols kr v10 v37 wr) (fun _ v37 _ => cols - (intOf v37).toNat)
  case atStart => exact HL0.out
  case round =>
    obtain ⟨t, bs, ht, rfl, hlg, hb⟩ := hrel
    obtain ⟨VO, co, rfl, _⟩ := own_slice' hlg.out
    have HLG := Lib.hid hlg
    have HB := Lib.hid hb
    have hwr := hb.size
    clear hlg hb HL0
    by_cases hlt : t < cols
    · have HCT : Hid (Calls Tryz.prog 77 #[.slice VA cr.length ck, .int .i64 (t : Int)] wr (Quiet (.bool (decide (t ∈ piv))) wr)) := by
        have := contains_c (nz piv) t VA ck wr ((HPV.out.keep HB.out).more hwr) (by rw [nz_len]; have := HPN.out.2; omega)
        rw [nz_len, ← HCML.out, show decide ((t : Int) ∈ nz piv) = decide (t ∈ piv) by simp [mem_nz]] at this
        exact this
      have c0 : wr.cell? ⟨w.heap.size + 1, 0, none⟩ = some (.int .i64 (cols : Int)) := (HB.out.cell (p := ⟨w.heap.size + 1, 0, none⟩) hs3).trans a0
      by_cases hp : t ∈ piv
      · rw [decide_eq_true hp] at HCT
        have HFS : Hid (freeC piv (t + 1) = freeC piv t) := by show _ = _; rw [freeC_succ, if_pos hp, List.append_nil]
        clear hp
        go_wp2_with fail
        (with_reducible refine HCT.out.mono ?_)
        rintro e w3 ⟨rfl, n, rfl⟩
        have HB3 : Hid (Below wr.heap.size wr (wr.drewN n)) := below_drewN (Below.refl _ _) n
        generalize wr.drewN n = w4 at *
        go_wp2_with fail
        go_roundw
        case rel => exact ⟨t + 1, bs, by omega, by go_num, by rw [HFS.out]; exact HLG.out.grow HB3.out, HB.out.trans (HB3.out.mono hwr)⟩
        case measure => simp [intOf]; omega
      · rw [decide_eq_false hp] at HCT
        have HFS : Hid ((freeC piv (t + 1)).length = (freeC piv t).length + 1) := by show _ = _; rw [freeC_succ, if_neg hp]; simp
        have HKK := Lib.hid (HKA.out t hlt hp)
        have hfk : (freeC piv t).length < kr.length := by rw [HKL.out]; exact (freeC_at piv cols t hlt hp).1
        clear hp
        go_wp2_with fail
        (with_reducible refine HCT.out.mono ?_)
        rintro e w3 ⟨rfl, n, rfl⟩
        have HB3 : Hid (Below wr.heap.size wr (wr.drewN n)) := below_drewN (Below.refl _ _) n
        have HL4 := Lib.hid (HLG.out.grow HB3.out)
        have HB4 := Lib.hid (HB.out.trans (HB3.out.mono hwr))
        have c4 : (wr.drewN n).cell? ⟨w.heap.size + 1, 0, none⟩ = some (.int .i64 (cols : Int)) := c0
        clear HB3 HLG HB HCT c0
        generalize wr.drewN n = w4 at *
        clear hwr
        clear wr
        have hw4 := HB4.out.size
        go_upto_region 11 with (refine wpList_make_full w4 rfl (.tmp 44) (.tmp 44) 23 rfl w4.heap.size 3 i0 (.int .i64 0) 1 Tryz.underlying23 HI.out HZ0.out HZ1.out .i64 .i64 cols cols cols rfl rfl rfl rfl HB2.out HB3.out (Nat.le_refl _) ?_; intro w5 hown hgrn)
        have HR5 : Hid (Row w5 w4.heap.size w4.heap.size cols (nz (List.replicate cols 0))) := by have := Row.of_make hown; exact this
        have HB5 : Hid (Below w4.heap.size w4 w5) := below_of_grown hgrn
        have r0 := HR5.out.cell (j := t) (by rw [nz_len, List.length_replicate]; exact hlt)
        have rf := HR5.out.frozen t
        have HI0 : Hid (RelKi w4 O cr piv cols t (.int .i64 ((0 : Nat) : Int)) (w5.setCell ⟨w4.heap.size, t, none⟩ (.int .i64 1))) := by
          refine ⟨0, by omega, rfl, ?_, HB5.out.setCell (p := ⟨w4.heap.size, t, none⟩) (Nat.le_refl _) _⟩
          have := HR5.out.set t 1
          rw [show (1 : Int) = ((1 : Nat) : Int) from rfl, nz_set] at this
          exact this
        have hpl : (cr.length : Int) = (piv.length : Int) := by rw [HCML.out]
        have hpb : piv.length ≤ 256 := by have := HPN.out.2; omega
        have t0 : (0 : Int) ≤ (t : Int) := by omega
        have t1 : (t : Int) < (cols : Int) := by omega
        clear hown hgrn
        go_wp2_with fail
        generalize w5.setCell ⟨w4.heap.size, t, none⟩ (.int .i64 1) = W6 at *
        clear r0 rf
        go_loopw [51] (fun v51 wr => RelKi w4 O cr piv cols t v51 wr) (fun v51 _ => piv.length - (intOf v51).toNat)
        case atStart => exact HI0.out
        case round =>
          obtain ⟨i, hi, rfl, hrow, hb⟩ := hrel
          have HR := Lib.hid hrow
          have HB := Lib.hid hb
          have hwr := hb.size
          clear hrow hb HI0
          have HBW := Lib.hid (HB4.out.trans (HB.out.mono hw4))
          by_cases hil : i < piv.length
          · obtain ⟨bp, op, rfl, hbp, hcp⟩ := (HPV.out.keep HBW.out).at_ (k := i) (by rw [nz_len]; exact hil)
            rw [nz_getD] at hcp
            obtain ⟨br, or', Ai, ci, e, hbr, hcr, hri⟩ := (HRU.out.keep HBW.out).at_ (i := i) (by rw [nzs_len, HCML.out]; exact hil)
            injection e with e
            injection e with e1 e2 _
            subst e1 e2
            rw [Nat.zero_add] at hcr
            rw [nzs_getD] at hcr hri
            have hg := HCGR.out.row (i := i) hil
            rw [nz_len, hg.1] at hcr
            obtain ⟨bx, ox, rfl, hbx, hcx⟩ := hri.at_ (k := t) (by rw [nz_len, hg.1]; exact hlt)
            rw [nz_getD] at hcx
            have hxq : (cr.getD i []).getD t 0 < p.toNat ^ m.toNat := by
              have : ∀ (l : List Nat) (hj : t < l.length), l.getD t 0 = l[t] := fun l hj => by simp [List.getD, hj]
              rw [this _ (by rw [hg.1]; exact hlt)]
              exact hg.2 _ (List.getElem_mem _)
            have hpv := HPL.out i hil
            have HKS : Hid (kerK O cr piv cols t (i + 1) = (kerK O cr piv cols t i).set (piv.getD i 0) (O.neg ((cr.getD i []).getD t 0))) := rfl
            have HNG := Lib.hid (HNEG.out w2.heap.size wr _ (HG2.out.keep HBW.out) hxq)
            have f0 := HR.out.frozen (piv.getD i 0)
            have y0 := HR.out.cell (j := piv.getD i 0) (by rw [nz_len, kerK_len]; exact hpv)
            have i0' : (0 : Int) ≤ (i : Int) := by omega
            have i1' : (i : Int) < (piv.length : Int) := by omega
            have p0 : (0 : Int) ≤ ((piv.getD i 0 : Nat) : Int) := by omega
            have p1 : ((piv.getD i 0 : Nat) : Int) < (cols : Int) := by omega
            clear hri hg hxq
            generalize (cr.getD i []).getD t 0 = x at *
            generalize piv.getD i 0 = pv at *
            go_wp2_with fail
            (with_reducible refine HNG.out.mono ?_)
            rintro e w7 ⟨rfl, n, rfl⟩
            go_wp2_with fail
            go_roundw
            case rel =>
              refine ⟨i + 1, by omega, by go_num, ?_, (below_drewN HB.out n).setCell (p := ⟨w4.heap.size, pv, none⟩) (Nat.le_refl _) _⟩
              rw [HKS.out, ← nz_set]
              exact Row.set (w := wr.drewN n) HR.out pv _
            case measure => simp [intOf]; omega
          · obtain rfl : i = piv.length := by omega
            have HRW : Hid (Row wr w4.heap.size w4.heap.size cols (nz (kr.getD (freeC piv t).length []))) := by
              show Row _ _ _ _ _
              rw [HKK.out]
              exact HR.out
            have hol : (kr.getD (freeC piv t).length []).length = cols := by rw [HKK.out, kerK_len]
            have HOW : Hid ((wr.alloc (.cells #[.slice (some ⟨w4.heap.size, 0, none⟩) cols cols] 23)).ownsRow w2.heap.size 23 1 (.slice VO (freeC piv t).length co) (freeC piv t).length ((List.range (freeC piv t).length).map (hdr kr bs))) := by
              have hko := (HL4.out.grow HB.out).out
              exact World.ownsRow.alloc hko _
            have hfl : (freeC piv t).length ≤ t := freeC_le _ _
            have hbw2 := HBW.out.size
            clear HR
            go_wp2_with (at_builtin; refine wpList_append_own_at _ rfl (.tmp 69) (.tmp 71) 28 rfl w2.heap.size 23 i00 _ 1 24 Tryz.underlying28 HI'.out HZ0'.out HZ1'.out HZ2'.out rfl (by decide) (.slice VO (freeC piv t).length co) (freeC piv t).length ((List.range (freeC piv t).length).map (hdr kr bs)) rfl HOW.out ⟨wr.heap.size, 0, none⟩ 1 1 [.slice (some ⟨w4.heap.size, 0, none⟩) cols cols] rfl rfl ?c1 ?c2 ?c3 ?c4 ?c5 ?_)
            case c1 => exact World.news_of_block (cs := #[.slice (some ⟨w4.heap.size, 0, none⟩) cols cols]) (t := 23) (fr := (0, 0)) (heap_alloc_new wr _)
            case c2 => intro u hu; simp at hu; subst hu; rfl
            case c3 => unfold maxLen; omega
            case c4 => omega
            case c5 => simp; omega
            intro v' w7 hown' hgw _ hat
            have HX7 : Hid (LGrid w7 w2.heap.size v' kr (bs ++ [(w4.heap.size, cols)]) ((freeC piv t).length + 1)) := HL4.out.step hfk hw4 HB.out HRW.out (by rw [hol]; exact hown') hgw (by simpa using hat)
            have HB7 : Hid (Below w2.heap.size w2 w7) := (HBW.out.alloc (by omega) _).grown hgw (by simp; omega) (fun j hj => (HL4.out.out.lt j hj).1)
            clear hown' hgw hat HOW
            go_wp2_with fail
            go_roundw
            case rel => exact ⟨t + 1, _, by omega, by go_num, by rw [HFS.out]; exact HX7.out, HB7.out⟩
            case measure => simp [intOf]; omega
    · obtain rfl : t = cols := by omega
      have hkl : (freeC piv t).length = kr.length := HKL.out.symm
      have HLK : Hid (RowsAt wr wr.heap.size VO (nzs kr)) := by
        have hgd := HLG.out
        rw [hkl] at hgd
        exact hgd.up.rowsAt
      have HCB := Lib.hid (HCA2.out wr kr VO co ((HG2.out.keep HB.out).more hwr) HLK.out HKG.out (by rw [← hkl]; have := HFL.out; omega))
      rw [HKM.out.symm] at HCB
      have c0 : wr.cell? ⟨w.heap.size + 1, 0, none⟩ = some (.int .i64 (t : Int)) := (HB.out.cell (p := ⟨w.heap.size + 1, 0, none⟩) hs3).trans a0
      have HX3 := Lib.hid (HX2.out.keep HB.out)
      clear HLK HLG a0
      go_wp2_with fail
      (with_reducible refine HCB.out.mono ?_)
      rintro e w8 ⟨⟨R2, VA2, ck2, rfl, hru2⟩, hb8⟩
      have HX8 := Lib.hid (HX3.out.keep hb8)
      have HK22 := Lib.hid HX8.out.k2
      have HRU8 := Lib.hid hru2
      have hs8 : w.heap.size + 1 + 1 < wr.heap.size := HX3.out.size
      have c8 : w8.cell? ⟨w.heap.size + 1, 0, none⟩ = some (.int .i64 (t : Int)) := cell_of_row _ _ 0 _ _ _ HX8.out.k1
      have HY := Lib.hid (HX8.out.set #[.int .i64 (t : Int), .slice (some ⟨R2, 0, none⟩) out.length out.length])
      clear hb8 hru2 c0 HX3 HX2
      go_wp2_with (refine wpList_store_row rfl 53 (.tmp 4) (.tmp 85) rfl w8 (w.heap.size + 1 + 1) 53 #[.int .i64 0, .slice none 0 0] #[.int .i64 (t : Int), .slice (some ⟨R2, 0, none⟩) out.length out.length] rfl rfl HK22.out matSize rfl (by simp [Value.oneCell']) ?_)
      refine bodyPost_ret (results_row_one (P := Tryz.prog) rfl _ _ (w.heap.size + 1 + 1) 53 #[.int .i64 (t : Int), .slice (some ⟨R2, 0, none⟩) out.length out.length] (0, 0) _ _ rfl rfl HY.out.k2 Tryz.underlying53 rfl matSize) rfl ?_
      exact ⟨⟨_, _, rfl, (HRU8.out.setRow hs8 _).lower (by omega)⟩, HY.out.below⟩
end Go.Proofs.YthiackegnpnmbaaGreat

