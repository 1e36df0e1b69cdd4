/-
  The reference's field: the order, primes, digits.
-/
import Derived.Test.YtcfejnnhcdlffaaGreatPlE
import Derived.Test.YtcfejnnhcdlffaaGreatGw
namespace Go.Proofs.YtcfejnnhcdlffaaGreat
open Go.RowKit Pln

theorem orderM_wide {p m : Nat} (hp : 2 ≤ p) (hm : 1 ≤ m) (hm2 : m ≤ 8) : orderM p m = if 256 < p ^ m then 0 else ((p ^ m : Nat) : Int) := by
  by_cases h : p ≤ 256
  · exact orderM_nat hp h hm hm2
  · rw [orderM_zero (by omega), if_pos]
    have h1 := pow_le_mono (p := p) (k := 1) (m := m) hp hm
    rw [Nat.pow_one] at h1
    omega

set_option maxHeartbeats 1000000 in
set_option maxRecDepth 100000 in
theorem rorder_c (p m : Int) (A : Option Addr) (n c : Nat) (w : World) : Calls Tryz.prog 26 #[.agg #[.int .i64 p, .int .i64 m, .slice A n c]] w fun e w' => e = .returned (.int .i64 (orderM p m)) ∧ Below w.heap.size w w' := by
  have HB0 : Hid (Below w.heap.size w (w.alloc (.cells #[.int .i64 p, .int .i64 m, .slice A n c] 24))) := (Below.refl _ _).alloc (Nat.le_refl _) _
  by_cases h1 : p < 2
  · have HZ := Lib.hid (orderM_zero (p := p) (m := m) (.inl h1))
    go_enter Tryz.func26, Tryz.ntmps26
    go_wp2_with fail
    go_ret
    exact ⟨ret_int HZ.out.symm, HB0.out⟩
  · by_cases h3 : m < 1
    · have HZ := Lib.hid (orderM_zero (p := p) (m := m) (.inr (.inr (.inl h3))))
      go_enter Tryz.func26, Tryz.ntmps26
      go_wp2_with fail
      go_ret
      exact ⟨ret_int HZ.out.symm, HB0.out⟩
    · by_cases h4 : 8 < m
      · have HZ := Lib.hid (orderM_zero (p := p) (m := m) (.inr (.inr (.inr h4))))
        go_enter Tryz.func26, Tryz.ntmps26
        go_wp2_with fail
        go_ret
        exact ⟨ret_int HZ.out.symm, HB0.out⟩
      · obtain ⟨p, rfl⟩ := Int.eq_ofNat_of_zero_le (by omega : 0 ≤ p)
        obtain ⟨m, rfl⟩ := Int.eq_ofNat_of_zero_le (by omega : 0 ≤ m)
        have hp : 2 ≤ p := by omega
        have hm : 1 ≤ m := by omega
        have hm2 : m ≤ 8 := by omega
        have HM := Lib.hid (orderM_wide hp hm hm2)
        have hd : (256 : Int) / (p : Int) = ((256 / p : Nat) : Int) := rfl
        have HDL : Hid (∀ q : Nat, 256 / p < q ↔ 256 < q * p) := fun q => Nat.div_lt_iff_lt_mul (by omega)
        generalize 256 / p = dd at *
        go_enter Tryz.func26, Tryz.ntmps26
        go_wp2_with fail
        have b0 := cell_of_row (w.alloc (.cells #[.int .i64 (p : Int), .int .i64 (m : Int), .slice A n c] 24)) w.heap.size 0 _ _ _ (heap_alloc_new w _)
        have b1 := cell_of_row (w.alloc (.cells #[.int .i64 (p : Int), .int .i64 (m : Int), .slice A n c] 24)) w.heap.size 1 _ _ _ (heap_alloc_new w _)
        generalize w.alloc (.cells #[.int .i64 (p : Int), .int .i64 (m : Int), .slice A n c] 24) = W0 at *
        have b0' : W0.cell? ⟨w.heap.size, 0, none⟩ = some (.int .i64 (p : Int)) := b0
        have b1' : W0.cell? ⟨w.heap.size, 1, none⟩ = some (.int .i64 (m : Int)) := b1
        clear b0 b1
        go_loop [3, 4] (fun a i => ∃ k : Nat, k ≤ m ∧ p ^ k ≤ 256 ∧ i = .int .i64 k ∧ a = .int .i64 ((p ^ k : Nat) : Int)) (fun _ i => m - (intOf i).toNat)
        case atStart => exact ⟨0, by omega, by simp, rfl, by simp⟩
        case round =>
          obtain ⟨k, hk, hq, rfl, rfl⟩ := hrel
          by_cases hlt : k < m
          · have HS : Hid (p ^ (k + 1) = p ^ k * p) := Nat.pow_succ _ _
            have HL := Lib.hid (pow_le_mono hp (show k + 1 ≤ m by omega))
            generalize p ^ k = q at *
            have hdl := HDL.out q
            by_cases hc : dd < q
            · have HQ : Hid (orderM p m = 0) := by
                show _ = _
                rw [HM.out, if_pos]
                have h1 := HL.out
                rw [HS.out] at h1
                have := hdl.1 hc
                omega
              clear hdl
              go_wp2_with fail
              go_ret
              exact ⟨ret_int HQ.out.symm, HB0.out⟩
            · have hqp : q * p ≤ 256 := by omega
              have hmul : (q : Int) * (p : Int) = ((q * p : Nat) : Int) := (Int.natCast_mul _ _).symm
              clear hdl
              generalize q * p = qp at *
              go_wp2_with fail
              go_round
              case rel => exact ⟨k + 1, by omega, by rw [HS.out]; exact hqp, by go_num, by rw [HS.out]⟩
              case measure => simp [intOf]; omega
          · obtain rfl : k = m := by omega
            generalize hqq : p ^ k = q at *
            clear hqq
            go_wp2_with fail
            go_ret
            exact ⟨ret_int (by rw [HM.out, if_neg (by omega)]), HB0.out⟩
#print axioms rorder_c

theorem primeB_iff (n : Nat) : primeB n = true ↔ ∀ d, 2 ≤ d → d < n → n % d ≠ 0 := by
  unfold primeB
  rw [List.all_eq_true]
  constructor
  · intro h d h1 h2
    have := h d (List.mem_range.2 h2)
    simp only [Bool.or_eq_true, Nat.blt_eq, bne_iff_ne, ne_eq] at this
    omega
  · intro h d h2
    have h2' := List.mem_range.1 h2
    simp only [Bool.or_eq_true, Nat.blt_eq, bne_iff_ne, ne_eq]
    by_cases h1 : d < 2
    · exact .inl h1
    · exact .inr (h d (by omega) h2')

set_option maxHeartbeats 1000000 in
theorem rprime_c (n : Nat) (hn : n ≤ 1000000) (w : World) : Calls Tryz.prog 27 #[.int .i64 n] w fun e w' => e = .returned (.bool (primeB n)) ∧ w = w' := by
  have HP := Lib.hid (primeB_iff n)
  go_enter Tryz.func27, Tryz.ntmps27
  go_wp2_with fail
  go_loop [3] (fun v3 => ∃ k : Nat, 2 ≤ k ∧ (k ≤ n ∨ k = 2) ∧ v3 = .int .i64 k ∧ ∀ d, 2 ≤ d → d < k → n % d ≠ 0) (fun v3 => n - (intOf v3).toNat)
  case atStart => exact ⟨2, by omega, .inr rfl, rfl, fun d h1 h2 => by omega⟩
  case round =>
    obtain ⟨k, hk, hkn, rfl, hall⟩ := hrel
    have HALL := Lib.hid hall
    clear hall
    by_cases hlt : k < n
    · have T1 : Int.tmod (n : Int) (k : Int) = ((n % k : Nat) : Int) := tmod_nat n k
      have hk0 : ¬ (k : Int) = 0 := by omega
      have HR : Hid (∀ d, d = k → n % d = n % k) := fun d e => by rw [e]
      generalize hr : n % k = r at *
      have HRE := Lib.hid hr
      clear hr
      by_cases hz : r = 0
      · have HF : Hid (primeB n = false) := by
          show _ = _
          rw [← Bool.not_eq_true, HP.out]
          intro h
          exact h k hk hlt (by rw [HRE.out, hz])
        subst hz
        go_wp2_with fail
        go_ret
        exact ⟨ret_bool HF.out.symm, rfl⟩
      · have hzb : ((r : Int) == 0) = false := by rw [beq_eq_false_iff_ne]; omega
        have HN : Hid (∀ d, 2 ≤ d → d < k + 1 → n % d ≠ 0) := fun d h1 h2 => by
          by_cases hd : d = k
          · rw [hd, HRE.out]; exact hz
          · exact HALL.out d h1 (by omega)
        go_wp2_with fail
        go_round
        case rel => exact ⟨k + 1, by omega, .inl (by omega), by go_num, HN.out⟩
        case measure => simp [intOf]; omega
    · have HT : Hid (primeB n = true) := HP.out.2 (fun d h1 h2 => HALL.out d h1 (by omega))
      go_wp2_with fail
      go_ret
      exact ⟨ret_bool HT.out.symm, rfl⟩
#print axioms rprime_c

set_option maxHeartbeats 1000000 in
theorem rdigits_c (x p m : Nat) (w : World) (hx : x ≤ 1000000000) (hp : 1 ≤ p) (hp2 : p ≤ 1000000000) (hm : m ≤ 1000) :
    Calls Tryz.prog 40 #[.int .i64 x, .int .i64 p, .int .i64 m] w fun e w' => e = .returned (.slice (some ⟨w.heap.size, 0, none⟩) m m) ∧ Row w' w.heap.size w.heap.size m (nz (digs p m x)) ∧ Below w.heap.size w w' := by
  obtain ⟨i0, hi, hz0, hz1, hz2⟩ := info_parts infoInt
  have HI := Lib.hid hi
  have HZ0 := Lib.hid hz0
  have HZ1 := Lib.hid hz1
  have HB2 := Lib.hid (show i0.bytes * m ≤ 281474976710656 by rw [hz2]; omega)
  have HB3 := Lib.hid (show m ≤ maxLen by unfold maxLen; omega)
  clear hi hz0 hz1 hz2
  go_enter Tryz.func40, Tryz.ntmps40
  go_wp2_with (refine wpList_make_full w rfl (.tmp 9) (.tmp 9) 22 rfl w.heap.size 3 i0 (.int .i64 0) 1 Tryz.underlying22 HI.out HZ0.out HZ1.out .i64 .i64 m m m rfl rfl rfl rfl HB2.out HB3.out (Nat.le_refl _) ?_; intro w1 hown hgr)
  have HR := Lib.hid (Row.of_make hown)
  have HB := Lib.hid (below_of_grown hgr)
  clear hown hgr
  go_loopw [0, 8] (fun v0 v13 wr => RelDig w p m x v0 v13 wr) (fun _ v13 _ => m - (intOf v13).toNat)
  case atStart => exact ⟨0, by omega, by simp, rfl, HR.out, HB.out⟩
  case round =>
    obtain ⟨k, hk, rfl, rfl, hrow, hb⟩ := hrel
    have HR2 := Lib.hid hrow
    have HB2' := Lib.hid hb
    have hf := hrow.frozen k
    have HD : Hid (x / p ^ (k + 1) = x / p ^ k / p) := by rw [Nat.pow_succ, ← Nat.div_div_eq_div_mul]; rfl
    have hdx : x / p ^ k ≤ 1000000000 := Nat.le_trans (Nat.div_le_self _ _) hx
    have HS := Lib.hid (fun h => dgK_set p m x k h)
    have HLEN := Lib.hid (dgK_len p m x k hk)
    by_cases hlt : k < m
    · have hc := hrow.cell (j := k) (by rw [nz_len, HLEN.out]; exact hlt)
      clear hrow hb HR HB
      generalize x / p ^ k = y at *
      have hq0 : 0 ≤ (y : Int) / (p : Int) := Int.ediv_nonneg (by omega) (by omega)
      have hq1 : (y : Int) / (p : Int) ≤ (y : Int) := Int.ediv_le_self _ (by omega)
      go_wp2_with fail
      go_roundw
      case rel =>
        refine ⟨k + 1, by omega, by rw [HD.out]; go_num, by go_num, ?_, (HB2'.out.setCell (Nat.le_refl _) _)⟩
        rw [← HS.out hlt, ← nz_set]
        exact HR2.out.set k _
      case measure => simp [intOf]; omega
    · obtain rfl : k = m := by omega
      clear hrow hb HR HB
      generalize x / p ^ k = y at *
      go_wp2_with fail
      go_ret
      refine ⟨rfl, ?_, HB2'.out⟩
      have := HR2.out
      unfold dgK at this
      rw [Nat.sub_self, List.replicate_zero, List.append_nil] at this
      exact this
#print axioms rdigits_c
end Go.Proofs.YtcfejnnhcdlffaaGreat

/-
  The reference's field: divides.
-/
namespace Go.Proofs.YtcfejnnhcdlffaaGreat
open Go.RowKit Pln

def RelDv (w : World) (B p : Nat) (low md : List Nat) (g c : Nat) (v9 : Value) (wr : World) : Prop :=
  ∃ t i : Nat, t ≤ md.length + 1 - low.length ∧ i + t = md.length ∧ v9 = .int .i64 (i : Int) ∧ Row wr B g c (nz (divGo p low (md ++ [1]) t)) ∧ Below B w wr
def RelDr (w : World) (B p : Nat) (low : List Nat) (i cc : Nat) (s : List Nat) (g c : Nat) (v11 : Value) (wr : World) : Prop :=
  ∃ j : Nat, j ≤ low.length ∧ v11 = .int .i64 (j : Int) ∧ Row wr B g c (nz (divRow p low.length low i cc s j)) ∧ Below B w wr

set_option maxHeartbeats 2000000 in
set_option maxRecDepth 100000 in
theorem rdivides_c (p : Nat) (low md : List Nat) (Al Am : Option Addr) (cl cm : Nat) (w : World) (hp : 2 ≤ p) (hp2 : p ≤ 256) (hL : IntsAt w w.heap.size Al (nz low)) (hM : IntsAt w w.heap.size Am (nz md)) (hl : Dig p low.length low) (hm : Dig p md.length md)
    (hl1 : 1 ≤ low.length) (hlm : low.length ≤ md.length) (hml : md.length ≤ 8) :
    Calls Tryz.prog 39 #[.slice Al low.length cl, .slice Am md.length cm, .int .i64 p] w fun e w' => e = .returned (.bool (dividesM p low md)) ∧ Below w.heap.size w w' := by
  obtain ⟨i0, hi, hz0, hz1, hz2⟩ := info_parts infoInt
  have HI := Lib.hid hi
  have HZ0 := Lib.hid hz0
  have HZ1 := Lib.hid hz1
  have HZ2 := Lib.hid hz2
  obtain ⟨b, o, rfl, hbl, hc⟩ := hM.at_ (k := 0) (by rw [nz_len]; omega)
  have HL := Lib.hid hL
  have HOE : Hid ((w.alloc (.cells #[] 3)).ownsRow w.heap.size 3 1 (.slice (some ⟨w.heap.size, 0, none⟩) 0 0) 0 []) := World.ownsRow_made w #[] 0 (Nat.le_refl _) (by unfold maxLen; omega) rfl
  have HNEW : Hid (∀ (j : Nat) (u : Value), ((nz md).map (Value.int .i64))[j]? = some u → (w.alloc (.cells #[] 3)).cell? ((⟨b, o, none⟩ : Addr).add j) = some u) := (hM.keep ((Below.refl _ _).alloc (Nat.le_refl _) _)).news
  have HDG : Hid (∀ t, Dig p (md.length + 1) (divGo p low (md ++ [1]) t)) := fun t => divGo_dig (by omega) low ⟨by simp, fun d hd => by
    rcases List.mem_append.1 hd with h | h
    · exact hm.2 d h
    · simp at h; omega⟩ t
  have HDR : Hid (∀ i cc s, Dig p (md.length + 1) s → ∀ j, Dig p (md.length + 1) (divRow p low.length low i cc s j)) := fun i cc s hs j => divRow_dig (by omega) _ low i cc hs j
  have HLW : Hid (∀ j, low.getD j 0 < p) := fun j => getD_lt (by omega) hl j
  have HLEN := Lib.hid (nz_len md)
  clear hi hz0 hz1 hz2 hM hL hc hm hl
  go_enter Tryz.func39, Tryz.ntmps39
  go_upto_region 3 with (at_builtin; refine wpList_append_lies _ rfl (.tmp 15) (.tmp 16) 22 rfl w.heap.size 3 i0 _ 1 8 Tryz.underlying22 HI.out HZ0.out HZ1.out HZ2.out rfl (by decide) (.slice (some ⟨w.heap.size, 0, none⟩) 0 0) 0 [] rfl HOE.out ⟨b, o, none⟩ md.length cm ((nz md).map (Value.int .i64)) rfl ?c0 HNEW.out ?c2 ?c1 ?c3 ?c4 ?c5 _ rfl ?_)
  case c0 => simp [nz]
  case c1 => omega
  case c2 => intro u hu; obtain ⟨z, _, rfl⟩ := List.mem_map.1 hu; rfl
  case c3 => unfold maxLen; omega
  case c4 => omega
  case c5 => simp
  intro g1 cap1 w1 hown hgr hat hlt
  have HB1 : Hid (Below w.heap.size w w1) := ((Below.refl _ _).alloc (Nat.le_refl _) _).grown hgr (by simp) (fun k hk => by simp [Value.ownBlock] at hk; omega)
  have HR1 : Hid (Row w1 w.heap.size g1 cap1 (nz md)) := by
    show w1.ownsRow _ _ _ _ _ _
    rw [HLEN.out]
    exact hown
  have hws := HB1.out.size
  clear hown hgr hat hlt hbl
  go_upto_region 4 with (at_builtin; refine wpList_append_own_at _ rfl (.tmp 18) (.tmp 19) 22 rfl w.heap.size 3 i0 _ 1 8 Tryz.underlying22 HI.out HZ0.out HZ1.out HZ2.out rfl (by decide) (.slice (some ⟨g1, 0, none⟩) md.length cap1) md.length ((nz md).map (Value.int .i64)) rfl (own_of_row HR1.out HLEN.out) ⟨w1.heap.size, 0, none⟩ 1 1 [.int .i64 1] rfl rfl ?d1 ?d2 ?d3 ?d4 ?d5 ?_)
  case d1 => exact World.news_of_block (cs := #[.int .i64 1]) (t := 3) (fr := (0, 0)) (heap_alloc_new w1 _)
  case d2 => intro u hu; simp at hu; subst hu; rfl
  case d3 => unfold maxLen; omega
  case d4 => omega
  case d5 => simp; omega
  intro v' w3 hown' hgw3 _ hat
  have HB3 : Hid (Below w.heap.size w w3) := (HB1.out.alloc hws _).grown hgw3 (by simp; omega) (fun j hj => by simp [Value.ownBlock] at hj; have := HR1.out.lt; omega)
  have hOI : OwnI w3 w.heap.size v' (nz (md ++ [1])) := own_of_append (y := 1) hown' HLEN.out
  obtain ⟨g, cg, rfl, hrow⟩ := hOI
  have hnl : (nz (md ++ [1])).length = md.length + 1 := by simp [nz]
  rw [hnl]
  have HS0 : Hid (RelDv w w.heap.size p low md g cg (.int .i64 (md.length : Int)) w3) := ⟨0, md.length, Nat.zero_le _, rfl, rfl, hrow, HB3.out⟩
  clear hown' hgw3 hat hrow hnl HR1 HB1 HB3 HNEW HOE
  have HSTEP : Hid (∀ t i, i + t = md.length → divGo p low (md ++ [1]) (t + 1) = (divRow p low.length low i ((divGo p low (md ++ [1]) t).getD i 0) (divGo p low (md ++ [1]) t) low.length).set i 0) := fun t i h => by
    show (divRow p low.length low ((md ++ [1]).length - 1 - t) _ _ low.length).set ((md ++ [1]).length - 1 - t) 0 = _
    have e : (md ++ [1]).length - 1 - t = i := by simp; omega
    rw [e]
  have HEND : Hid (dividesM p low md = (divGo p low (md ++ [1]) (md.length + 1 - low.length)).all (· == 0)) := rfl
  have HL3 : Hid (∀ W : World, Below w.heap.size w W → IntsAt W w.heap.size Al (nz low)) := fun W hW => HL.out.keep hW
  clear HL HLEN
  go_wp2_with fail
  go_loopw [9] (fun v9 wr => RelDv w w.heap.size p low md g cg v9 wr) (fun v9 _ => (intOf v9 + 1).toNat - low.length)
  case atStart => exact HS0.out
  case round =>
    obtain ⟨t, i, ht, hit, rfl, hrow, hb⟩ := hrel
    have HROW := Lib.hid hrow
    have HB := Lib.hid hb
    have hdig := HDG.out t
    have hlen : (nz (divGo p low (md ++ [1]) t)).length = md.length + 1 := by rw [nz_len]; exact hdig.1
    have HDGT := Lib.hid hdig
    clear hrow hb HS0
    by_cases hlt : low.length ≤ i
    · have HST := Lib.hid (HSTEP.out t i hit)
      have hci : wr.cell? ⟨g, i, none⟩ = some (.int .i64 (((divGo p low (md ++ [1]) t).getD i 0 : Nat) : Int)) := by
        rw [← nz_getD]
        exact HROW.out.cell (by rw [hlen]; omega)
      have hcp : (divGo p low (md ++ [1]) t).getD i 0 < p := getD_lt (by omega) hdig i
      have HDRT := Lib.hid (fun cc => HDR.out i cc _ hdig)
      clear hdig hlen
      generalize (divGo p low (md ++ [1]) t).getD i 0 = cc at *
      generalize divGo p low (md ++ [1]) t = s at *
      have HI0 : Hid (RelDr w w.heap.size p low i cc s g cg (.int .i64 ((0 : Nat) : Int)) wr) := ⟨0, Nat.zero_le _, rfl, HROW.out, HB.out⟩
      have j0 : (0 : Int) ≤ (i : Int) := by omega
      have j1 : (i : Int) < ((md.length + 1 : Nat) : Int) := by omega
      go_wp2_with fail
      clear hci HROW HB
      go_loopw [11] (fun v11 wr => RelDr w w.heap.size p low i cc s g cg v11 wr) (fun v11 _ => low.length - (intOf v11).toNat)
      case atStart => exact HI0.out
      case round =>
        obtain ⟨j, hj, rfl, hrow, hb⟩ := hrel
        have HROW := Lib.hid hrow
        have HB := Lib.hid hb
        have hdr := HDRT.out cc j
        clear hrow hb HI0
        by_cases hlj : j < low.length
        · obtain ⟨a, rfl⟩ : ∃ a, i = a + low.length := ⟨i - low.length, by omega⟩
          have hrc : wr.cell? ⟨g, a + j, none⟩ = some (.int .i64 (((divRow p low.length low (a + low.length) cc s j).getD (a + j) 0 : Nat) : Int)) := by
            rw [← nz_getD]
            exact HROW.out.cell (by rw [nz_len, hdr.1]; omega)
          obtain ⟨bl, ol, rfl, hbl, hlc⟩ := (HL3.out wr HB.out).at_ (k := j) (by rw [nz_len]; exact hlj)
          rw [nz_getD] at hlc
          have hlw := HLW.out j
          have hrp : (divRow p low.length low (a + low.length) cc s j).getD (a + j) 0 < p := getD_lt (by omega) hdr (a + j)
          have HNX : Hid (divRow p low.length low (a + low.length) cc s (j + 1) = (divRow p low.length low (a + low.length) cc s j).set (a + j) (((divRow p low.length low (a + low.length) cc s j).getD (a + j) 0 + (p - cc) * low.getD j 0) % p)) := by
            show addAt p _ (a + low.length - low.length + j) _ = _
            rw [Nat.add_sub_cancel]
            rfl
          have hf := HROW.out.frozen (a + j)
          have T1 : Hid (Int.tmod ((((divRow p low.length low (a + low.length) cc s j).getD (a + j) 0 + (p - cc) * low.getD j 0 : Nat) : Nat) : Int) (p : Int) = ((((divRow p low.length low (a + low.length) cc s j).getD (a + j) 0 + (p - cc) * low.getD j 0) % p : Nat) : Int)) := tmod_nat _ _
          clear hdr
          generalize divRow p low.length low (a + low.length) cc s j = rj at *
          generalize rj.getD (a + j) 0 = x at *
          generalize low.getD j 0 = lj at *
          have E1 : Hid (IntKind.i64.wrap (((a + low.length : Nat) : Int) - (low.length : Int)) = (a : Int)) := by
            show _ = _
            rw [show ((a + low.length : Nat) : Int) - (low.length : Int) = (a : Int) by omega]
            exact IntWalk.i64_in _ (by omega)
          have E3 : Hid (IntKind.i64.wrap ((p : Int) - (cc : Int)) = ((p - cc : Nat) : Int)) := by
            show _ = _
            rw [Int.natCast_sub (by omega)]
            exact IntWalk.i64_in _ (by omega)
          have hpc : p - cc ≤ 256 := by omega
          have E2 : Hid (IntKind.i64.wrap ((a : Int) + (j : Int)) = ((a + j : Nat) : Int)) := by
            show _ = _
            rw [Int.natCast_add]
            exact IntWalk.i64_in _ (by omega)
          have hmul : (p - cc) * lj ≤ 65536 := Nat.le_trans (Nat.mul_le_mul hpc (show lj ≤ 256 by omega)) (by omega)
          have E4 : Hid (IntKind.i64.wrap (((p - cc : Nat) : Int) * (lj : Int)) = (((p - cc) * lj : Nat) : Int)) := by
            show _ = _
            rw [← Int.natCast_mul]
            exact IntWalk.i64_in _ (by omega)
          generalize (p - cc) * lj = pl at *
          generalize p - cc = pc at *
          have E5 : Hid (IntKind.i64.wrap ((x : Int) + (pl : Int)) = ((x + pl : Nat) : Int)) := by
            show _ = _
            rw [Int.natCast_add]
            exact IntWalk.i64_in _ (by omega)
          have k0 : (0 : Int) ≤ ((a + j : Nat) : Int) := by omega
          have k1 : ((a + j : Nat) : Int) < (md.length : Int) + 1 := by omega
          have l0 : (0 : Int) ≤ (j : Int) := by omega
          have l1 : (j : Int) < (low.length : Int) := by omega
          have hp0 : ¬ (p : Int) = 0 := by omega
          have hp00 : ¬ p = 0 := by omega
          generalize (x + pl) % p = z at *
          generalize x + pl = xp at *
          generalize hy : a + j = y at *
          generalize hil : a + low.length = i at *
          have HY := Lib.hid hy
          have HIL := Lib.hid hil
          clear hy hil
          go_upto_region 11 with fail
          have e1 := E1.out
          have e2 := E2.out
          have e3 := E3.out
          have e4 := E4.out
          have e5 := E5.out
          have t1 := T1.out
          refine wp_region_keep_tail 26 (SDrew wr) (by kernel_rfl) (by kernel_rfl) ⟨1, rfl⟩ ?_
          simp only [List.take_succ_cons, List.take_zero, List.drop_succ_cons, List.drop_zero]
          repeat (apply keep_val rfl
                  · intro W hS
                    obtain ⟨n, rfl⟩ := hS
                    go_simp
                    rfl
                  go_simp)
          refine wpKeep_nil ?_
          intro w2 hS2
          obtain ⟨n, rfl⟩ := hS2
          clear e1 e2 e3 e4 e5 t1
          go_wp2_with fail
          go_roundw
          case rel => exact ⟨j + 1, by omega, by go_num, by rw [HNX.out, ← nz_set]; exact Row.set (w := wr.drewN n) HROW.out y z, (below_drewN HB.out n).setCell (p := ⟨g, y, none⟩) HROW.out.lt.1 _⟩
          case measure => simp [intOf]; omega
        · obtain rfl : j = low.length := by omega
          have hf := HROW.out.frozen i
          have hrc : wr.cell? ⟨g, i, none⟩ = some (.int .i64 (((divRow p low.length low i cc s low.length).getD i 0 : Nat) : Int)) := by
            rw [← nz_getD]
            exact HROW.out.cell (by rw [nz_len, hdr.1]; omega)
          clear hdr
          go_wp2_with fail
          go_roundw
          case rel => exact ⟨t + 1, i - 1, by omega, by omega, by rw [show ((i - 1 : Nat) : Int) = (i : Int) - 1 by omega], by rw [HST.out, ← nz_set]; exact HROW.out.set i 0, HB.out.setCell (p := ⟨g, i, none⟩) HROW.out.lt.1 _⟩
          case measure => simp [intOf]; omega
    · have hte : t = md.length + 1 - low.length := by omega
      have HE : Hid (dividesM p low md = (divGo p low (md ++ [1]) t).all (· == 0)) := by show _ = _; rw [HEND.out, ← hte]
      have hdl := hdig.1
      clear hte hdig hlen HDGT HDG HDR HSTEP HEND
      generalize divGo p low (md ++ [1]) t = s at *
      have hil : (i : Int) < (low.length : Int) := by omega
      have HSL : Hid (s.length = md.length + 1) := hdl
      clear hdl
      go_wp2_with fail
      clear hil
      go_loop [12] (fun v12 => ∃ k : Nat, k ≤ md.length + 1 ∧ v12 = .int .i64 k ∧ (s.take k).all (· == 0) = true) (fun v12 => md.length + 1 - (intOf v12).toNat)
      case atStart => exact ⟨0, by omega, rfl, by simp⟩
      case round =>
        obtain ⟨k, hk, rfl, hall⟩ := hrel
        have HALL := Lib.hid hall
        clear hall
        by_cases hlk : k < md.length + 1
        · have hrc : wr.cell? ⟨g, k, none⟩ = some (.int .i64 ((s.getD k 0 : Nat) : Int)) := by
            rw [← nz_getD]
            exact HROW.out.cell (by rw [nz_len, HSL.out]; exact hlk)
          have HTK := Lib.hid (all_take_succ (· == 0) s 0 k (by rw [HSL.out]; exact hlk))
          have HFL := Lib.hid (all_false_at (· == 0) s 0 k (by rw [HSL.out]; exact hlk))
          generalize s.getD k 0 = z at *
          by_cases hz : z = 0
          · have hzb : ((z : Int) != 0) = false := by rw [hz]; rfl
            have HN : Hid ((s.take (k + 1)).all (· == 0) = true) := by show _ = _; rw [HTK.out, HALL.out, hz]; rfl
            clear hz HTK HFL
            go_wp2_with fail
            go_round
            case rel => exact ⟨k + 1, by omega, by go_num, HN.out⟩
            case measure => simp [intOf]; omega
          · have hzb : ((z : Int) != 0) = true := by rw [bne_iff_ne]; omega
            have HN : Hid (dividesM p low md = false) := by show _ = _; rw [HE.out]; exact HFL.out (by simpa using hz)
            clear hz HTK HFL
            go_wp2_with fail
            go_ret
            exact ⟨ret_bool HN.out.symm, HB.out⟩
        · have HN : Hid (dividesM p low md = true) := by
            show _ = _
            have := HALL.out
            rw [List.take_of_length_le (by rw [HSL.out]; omega)] at this
            rw [HE.out, this]
          go_wp2_with fail
          go_ret
          exact ⟨ret_bool HN.out.symm, HB.out⟩
#print axioms rdivides_c
end Go.Proofs.YtcfejnnhcdlffaaGreat
