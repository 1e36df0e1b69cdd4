/-
  The reference's field: Is, In, Digits, Value.
-/
import Derived.Test.YtcfejnnhcdlffaaGreatRd
namespace Go.Proofs.YtcfejnnhcdlffaaGreat
open Go.RowKit Pln

theorem SBoxF.c0 {w : World} {p m : Int} {A : Option Addr} {n c : Nat} {W : World} (h : SBoxF w p m A n c W) : W.cell? ⟨w.heap.size, 0, none⟩ = some (.int .i64 p) := cell_of_row _ _ 0 _ _ _ h.2.2
theorem SBoxF.c1 {w : World} {p m : Int} {A : Option Addr} {n c : Nat} {W : World} (h : SBoxF w p m A n c W) : W.cell? ⟨w.heap.size, 1, none⟩ = some (.int .i64 m) := cell_of_row _ _ 1 _ _ _ h.2.2
theorem SBoxF.c2 {w : World} {p m : Int} {A : Option Addr} {n c : Nat} {W : World} (h : SBoxF w p m A n c W) : W.cell? ⟨w.heap.size, 2, none⟩ = some (.slice A n c) := cell_of_row _ _ 2 _ _ _ h.2.2
theorem SBoxF.range {w : World} {p m : Int} {A : Option Addr} {n c : Nat} {W : World} (h : SBoxF w p m A n c W) : W.rangeAt w.heap.size 0 [.int .i64 p, .int .i64 m, .slice A n c] := range_of_row h.2.2
theorem sboxf_new (w : World) (p m : Int) (A : Option Addr) (n c : Nat) : SBoxF w p m A n c (w.alloc (.cells #[.int .i64 p, .int .i64 m, .slice A n c] 24)) := ⟨(Below.refl _ _).alloc (Nat.le_refl _) _, by simp, heap_alloc_new _ _⟩

set_option maxHeartbeats 1000000 in
set_option maxRecDepth 100000 in
theorem ris_c (p m : Int) (A : Option Addr) (n c : Nat) (x : Int) (w : World) : Calls Tryz.prog 55 #[.agg #[.int .i64 p, .int .i64 m, .slice A n c], .int .i64 x] w fun e w' => e = .returned (.bool (inB (orderM p m) x)) ∧ Below w.heap.size w w' := by
  have HX : Hid (SBoxF w p m A n c (w.alloc (.cells #[.int .i64 p, .int .i64 m, .slice A n c] 24))) := ⟨(Below.refl _ _).alloc (Nat.le_refl _) _, by simp, heap_alloc_new _ _⟩
  go_enter Tryz.func55, Tryz.ntmps55
  go_upto_region 1 with fail
  generalize w.alloc (.cells #[.int .i64 p, .int .i64 m, .slice A n c] 24) = W0 at *
  have HRG : Hid (W0.rangeAt w.heap.size 0 [.int .i64 p, .int .i64 m, .slice A n c]) := range_of_row HX.out.2.2
  by_cases h0 : x < 0
  · have HE : Hid (inB (orderM p m) x = false) := by show _ = _; unfold inB; rw [decide_eq_false (by omega)]; rfl
    have hb : decide (0 ≤ x) = false := decide_eq_false (by omega)
    clear h0
    go_wp2_with fail
    go_ret
    exact ⟨ret_bool HE.out.symm, HX.out.1⟩
  · have HE : Hid (inB (orderM p m) x = decide (x < orderM p m)) := by show _ = _; unfold inB; rw [decide_eq_true (by omega)]; rfl
    have hb : decide (0 ≤ x) = true := decide_eq_true (by omega)
    have HC := Lib.hid (rorder_c p m A n c W0)
    have b0 := HX.out.c0
    have b1 := HX.out.c1
    have b2 := HX.out.c2
    clear h0
    go_wp2_with fail
    (with_reducible refine HC.out.mono ?_)
    rintro e w1 ⟨rfl, hb1⟩
    have HX1 := Lib.hid (HX.out.grow hb1)
    clear hb1 b0 b1 b2
    go_wp2_with fail
    go_ret
    exact ⟨ret_bool HE.out.symm, HX1.out.1⟩
#print axioms ris_c

set_option maxHeartbeats 1000000 in
set_option maxRecDepth 100000 in
theorem rin_c (p m : Nat) (A : Option Addr) (n c x : Nat) (w : World) (hs : Small p m) (hx : x < p ^ m) : Calls Tryz.prog 151 #[.agg #[.int .i64 p, .int .i64 m, .slice A n c], .int .i64 x] w fun e w' => e = .returned (.int .i64 x) ∧ Below w.heap.size w w' := by
  have HX := Lib.hid (sboxf_new w p m A n c)
  have hin : inB (orderM p m) x = true := by
    rw [orderM_nat hs.p1 hs.p2 hs.m1 hs.m2, if_neg (by have := hs.q; omega)]
    unfold inB
    rw [decide_eq_true (by omega), decide_eq_true (by omega)]
    rfl
  have HIN := Lib.hid hin
  clear hs hx hin
  go_enter Tryz.func151, Tryz.ntmps151
  go_upto_region 1 with fail
  generalize w.alloc (.cells #[.int .i64 (p : Int), .int .i64 (m : Int), .slice A n c] 24) = W0 at *
  have HRG := Lib.hid HX.out.range
  have HC := Lib.hid (ris_c p m A n c x W0)
  rw [HIN.out] at HC
  go_wp2_with (refine wpList_load_mid rfl 24 (.tmp 2) rfl w.heap.size 0 rfl [.int .i64 (p : Int), .int .i64 (m : Int), .slice A n c] _ HRG.out Tryz.underlying24 rfl fieldSize ?_)
  (with_reducible refine HC.out.mono ?_)
  rintro e w1 ⟨rfl, hb1⟩
  have HX1 := Lib.hid (HX.out.grow hb1)
  clear hb1
  go_wp2_with fail
  go_ret
  exact ⟨rfl, HX1.out.1⟩
#print axioms rin_c

set_option maxHeartbeats 1000000 in
set_option maxRecDepth 100000 in
theorem rdig_c (p m : Nat) (A : Option Addr) (n c x : Nat) (w : World) (hs : Small p m) (hx : x < p ^ m) : Calls Tryz.prog 98 #[.agg #[.int .i64 p, .int .i64 m, .slice A n c], .int .i64 x] w fun e w' => (∃ g, e = .returned (.slice (some ⟨g, 0, none⟩) m m) ∧ Row w' w.heap.size g m (nz (digs p m x))) ∧ Below w.heap.size w w' := by
  have HX := Lib.hid (sboxf_new w p m A n c)
  have HIN : Hid (∀ W : World, Calls Tryz.prog 151 #[.agg #[.int .i64 p, .int .i64 m, .slice A n c], .int .i64 x] W fun e w' => e = .returned (.int .i64 x) ∧ Below W.heap.size W w') := fun W => rin_c p m A n c x W hs hx
  have HDG : Hid (∀ W : World, Calls Tryz.prog 40 #[.int .i64 x, .int .i64 p, .int .i64 m] W fun e w' => e = .returned (.slice (some ⟨W.heap.size, 0, none⟩) m m) ∧ Row w' W.heap.size W.heap.size m (nz (digs p m x)) ∧ Below W.heap.size W w') := fun W => rdigits_c x p m W (by have := hs.q; omega) (by have := hs.p1; omega) (by have := hs.p2; omega) (by have := hs.m2; omega)
  clear hs hx
  go_enter Tryz.func98, Tryz.ntmps98
  go_upto_region 1 with fail
  generalize w.alloc (.cells #[.int .i64 (p : Int), .int .i64 (m : Int), .slice A n c] 24) = W0 at *
  have z0 := HX.out.c0
  have z1 := HX.out.c1
  have z2 := HX.out.c2
  have hlt0 : w.heap.size < W0.heap.size := HX.out.2.1
  go_region_held3 (fun w' => w'.cell? ⟨w.heap.size, 0, none⟩ = some (.int .i64 p) ∧ w'.cell? ⟨w.heap.size, 1, none⟩ = some (.int .i64 m) ∧ w'.cell? ⟨w.heap.size, 2, none⟩ = some (.slice A n c) ∧ w.heap.size < w'.heap.size)
    (first | go_keep | (go_split_ands; first | exact ⟨(hbd2.cell (p := ⟨w.heap.size, 0, none⟩) (by assumption)).trans (by assumption), (hbd2.cell (p := ⟨w.heap.size, 1, none⟩) (by assumption)).trans (by assumption), (hbd2.cell (p := ⟨w.heap.size, 2, none⟩) (by assumption)).trans (by assumption), Nat.lt_of_lt_of_le (by assumption) hbd2.size⟩ | exact ⟨(hbd1.cell (p := ⟨w.heap.size, 0, none⟩) (by assumption)).trans (by assumption), (hbd1.cell (p := ⟨w.heap.size, 1, none⟩) (by assumption)).trans (by assumption), (hbd1.cell (p := ⟨w.heap.size, 2, none⟩) (by assumption)).trans (by assumption), Nat.lt_of_lt_of_le (by assumption) hbd1.size⟩))
    (first | ((with_reducible refine (HIN.out _).mono ?_); rintro e wd1 ⟨rfl, hbd1⟩) | ((with_reducible refine (HDG.out _).mono ?_); rintro e wd2 ⟨rfl, hrowa, hbd2⟩))
  have e1 : Below W0.heap.size W0 wd1 := ⟨hbd1.os, hbd1.tape, hbd1.output, hbd1.size, hbd1.block⟩
  have HB : Hid (Below w.heap.size w wd2) := HX.out.1.trans ((e1.mono (Nat.le_of_lt hlt0)).trans (hbd2.mono (by have := e1.size; omega)))
  have HR : Hid (Row wd2 w.heap.size wd1.heap.size m (nz (digs p m x))) := hrowa.base (by have := e1.size; omega)
  clear z0 z1 z2 hrowa hbd1 hbd2
  go_wp2_with fail
  go_ret
  exact ⟨⟨_, rfl, HR.out⟩, HB.out⟩
#print axioms rdig_c

def RelVa (W0 : World) (p : Nat) (l : List Nat) (v5 v6 : Value) (wr : World) : Prop := ∃ k n : Nat, k ≤ l.length ∧ v6 = .int .i64 ((k : Int) - 1) ∧ v5 = .int .i64 ((val p (l.drop k) : Nat) : Int) ∧ wr = W0.drewN n

set_option maxHeartbeats 1000000 in
set_option maxRecDepth 100000 in
theorem rval_c (p m : Nat) (A : Option Addr) (n c : Nat) (l : List Nat) (Al : Option Addr) (cl : Nat) (w : World) (hA : IntsAt w w.heap.size Al (nz l)) (hp : 1 ≤ p) (hl : ∀ d ∈ l, d < p) (hq : p ^ l.length ≤ 1000000000) (_hp2 : p ≤ 1000000000) (hll : l.length ≤ 1000) :
    Calls Tryz.prog 99 #[.agg #[.int .i64 p, .int .i64 m, .slice A n c], .slice Al l.length cl] w fun e w' => e = .returned (.int .i64 ((val p l : Nat) : Int)) ∧ Below w.heap.size w w' := by
  have HX := Lib.hid (sboxf_new w p m A n c)
  have HL := Lib.hid hl
  have HA := Lib.hid ((hA.keep HX.out.1).more HX.out.1.size)
  clear hA hl
  go_enter Tryz.func99, Tryz.ntmps99
  go_upto_region 1 with fail
  generalize w.alloc (.cells #[.int .i64 (p : Int), .int .i64 (m : Int), .slice A n c] 24) = W0 at *
  have z0 := HX.out.c0
  have HB : Hid (∀ n, Below w.heap.size w (W0.drewN n)) := fun n => below_drewN HX.out.1 n
  go_wp2_with fail
  go_loopw [5, 6] (fun v5 v6 wr => RelVa W0 p l v5 v6 wr) (fun _ v6 _ => (intOf v6 + 1).toNat)
  case atStart => exact ⟨l.length, 0, Nat.le_refl _, rfl, by simp [val], rfl⟩
  case round =>
    obtain ⟨k, n0, hk, rfl, rfl, rfl⟩ := hrel
    rcases k with _ | k
    · go_wp2_with fail
      go_ret
      exact ⟨ret_int (by simp), HB.out _⟩
    · obtain ⟨b, o, rfl, hlt, hc⟩ := HA.out.at_ (k := k) (by rw [nz_len]; omega)
      rw [nz_getD] at hc
      have HV := Lib.hid (val_drop p l k (by omega))
      have hv1 := val_drop_lt hp HL.out k
      have hv2 : p ^ (l.length - k) ≤ p ^ l.length := Nat.pow_le_pow_right hp (by omega)
      have hv3 : val p (l.drop k) ≤ 1000000000 := by omega
      have hv0 : val p (l.drop (k + 1)) * p + l.getD k 0 ≤ 1000000000 := by rw [← HV.out]; exact hv3
      generalize val p (l.drop (k + 1)) = y at *
      generalize l.getD k 0 = z at *
      have E1 : Hid (IntKind.i64.wrap ((y : Int) * (p : Int)) = ((y * p : Nat) : Int)) := by
        show _ = _
        rw [← Int.natCast_mul]
        exact IntWalk.i64_in _ (by omega)
      generalize y * p = yp at *
      have E2 : Hid (IntKind.i64.wrap ((yp : Int) + (z : Int)) = ((yp + z : Nat) : Int)) := by
        show _ = _
        rw [Int.natCast_add]
        exact IntWalk.i64_in _ (by omega)
      generalize yp + z = yz at *
      have hk1 : ((k + 1 : Nat) : Int) - 1 = (k : Int) := by omega
      have k0 : (0 : Int) ≤ (k : Int) := by omega
      have k1 : (k : Int) < (l.length : Int) := by omega
      rw [hk1]
      clear hv1 hv2 hv3 hv0 hk1
      go_upto_region 5 with fail
      have e1 := E1.out
      have e2 := E2.out
      refine wp_region_keep (SDrew W0) (by kernel_rfl) (by kernel_rfl) ⟨n0 + 1, by rw [← World.drewN_drewN]; rfl⟩ ?_
      repeat (apply keep_val rfl
              · intro W hS
                obtain ⟨n', rfl⟩ := hS
                go_simp
                rfl
              go_simp)
      refine wpKeep_nil ?_
      intro w2 hS2
      obtain ⟨n2, rfl⟩ := hS2
      clear e1 e2
      go_wp2_with fail
      go_roundw
      case rel => exact ⟨k, n2, by omega, rfl, by rw [HV.out], rfl⟩
      case measure => simp [intOf]
#print axioms rval_c
end Go.Proofs.YtcfejnnhcdlffaaGreat

/-
  The reference's field: Add, Neg.
-/
namespace Go.Proofs.YtcfejnnhcdlffaaGreat
open Go.RowKit Pln

/-- The first k places of a row are those of r. -/
def rK (r a : List Nat) (k : Nat) : List Nat := r.take k ++ a.drop k
theorem rK_len (r a : List Nat) (hl : r.length = a.length) (k : Nat) (hk : k ≤ a.length) : (rK r a k).length = a.length := by
  unfold rK
  rw [List.length_append, List.length_take, List.length_drop]
  omega
theorem rK_at (r a : List Nat) (hl : r.length = a.length) (k : Nat) (hk : k < a.length) : (rK r a k).getD k 0 = a.getD k 0 := by
  unfold rK
  have h : (r.take k).length = k := by rw [List.length_take]; omega
  simp only [List.getD]
  rw [List.getElem?_append_right (by omega), h, Nat.sub_self, List.getElem?_drop, Nat.add_zero]
theorem rK_set (r a : List Nat) (hl : r.length = a.length) (k : Nat) (hk : k < a.length) : (rK r a k).set k (r.getD k 0) = rK r a (k + 1) := by
  unfold rK
  have h : (r.take k).length = k := by rw [List.length_take]; omega
  rw [List.set_append_right _ _ (by omega), h, Nat.sub_self, List.drop_eq_getElem_cons hk, List.set_cons_zero, List.take_succ_eq_append_getElem (l := r) (by omega), List.append_assoc]
  simp [List.getD, show k < r.length by omega]
theorem rK_end (r a : List Nat) (hl : r.length = a.length) : rK r a a.length = r := by
  unfold rK
  rw [← hl, List.take_length, hl, List.drop_length, List.append_nil]
theorem SBoxF.wrote {w : World} {p m : Int} {A : Option Addr} {n c : Nat} {W : World} (h : SBoxF w p m A n c W) {g k : Nat} (hg : w.heap.size < g) (u : Value) : SBoxF w p m A n c (W.setCell ⟨g, k, none⟩ u) :=
  ⟨h.1.setCell (p := ⟨g, k, none⟩) (Nat.le_of_lt hg) u, by simpa using h.2.1, (Below.heap_setCell W ⟨g, k, none⟩ u w.heap.size (by show w.heap.size ≠ g; omega)).trans h.2.2⟩
theorem SBoxF.drewN {w : World} {p m : Int} {A : Option Addr} {n c : Nat} {W : World} (h : SBoxF w p m A n c W) (k : Nat) : SBoxF w p m A n c (W.drewN k) := ⟨below_drewN h.1 k, h.2.1, h.2.2⟩
def RelAd2 (w : World) (p m : Nat) (A : Option Addr) (n c ga gb : Nat) (r a b : List Nat) (v9 : Value) (wr : World) : Prop :=
  ∃ k : Nat, k ≤ m ∧ v9 = .int .i64 (k : Int) ∧ Row wr (w.heap.size + 1) ga m (nz (rK r a k)) ∧ Row wr (w.heap.size + 1) gb m (nz b) ∧ SBoxF w p m A n c wr

set_option maxHeartbeats 1000000 in
set_option maxRecDepth 100000 in
theorem radd_c (p m : Nat) (A : Option Addr) (n c x y : Nat) (w : World) (hs : Small p m) (hx : x < p ^ m) (hy : y < p ^ m) : Calls Tryz.prog 97 #[.agg #[.int .i64 p, .int .i64 m, .slice A n c], .int .i64 x, .int .i64 y] w fun e w' => e = .returned (.int .i64 ((addD p m x y : Nat) : Int)) ∧ Below w.heap.size w w' := by
  have HX := Lib.hid (sboxf_new w p m A n c)
  have HD1 : Hid (∀ W : World, Calls Tryz.prog 98 #[.agg #[.int .i64 p, .int .i64 m, .slice A n c], .int .i64 x] W fun e w' => (∃ g, e = .returned (.slice (some ⟨g, 0, none⟩) m m) ∧ Row w' W.heap.size g m (nz (digs p m x))) ∧ Below W.heap.size W w') := fun W => rdig_c p m A n c x W hs hx
  have HD2 : Hid (∀ W : World, Calls Tryz.prog 98 #[.agg #[.int .i64 p, .int .i64 m, .slice A n c], .int .i64 y] W fun e w' => (∃ g, e = .returned (.slice (some ⟨g, 0, none⟩) m m) ∧ Row w' W.heap.size g m (nz (digs p m y))) ∧ Below W.heap.size W w') := fun W => rdig_c p m A n c y W hs hy
  have hp1 := hs.p1
  have hp2 := hs.p2
  have hm2 := hs.m2
  have HRV := Lib.hid (addD_val p m x y)
  have hla := digs_len p m x
  have hlb := digs_len p m y
  have HLT : Hid (∀ k, (digs p m x).getD k 0 < p ∧ (digs p m y).getD k 0 < p) := fun k => ⟨getD_lt (by omega) (digs_dig (by omega) m x) k, getD_lt (by omega) (digs_dig (by omega) m y) k⟩
  have hlr : (List.zipWith (fun a b => (a + b) % p) (digs p m x) (digs p m y)).length = m := by rw [List.length_zipWith, hla, hlb, Nat.min_self]
  have HRG : Hid (∀ k, k < m → (List.zipWith (fun a b => (a + b) % p) (digs p m x) (digs p m y)).getD k 0 = ((digs p m x).getD k 0 + (digs p m y).getD k 0) % p) := fun k hk => by
    have e1 : (digs p m x)[k]? = some ((digs p m x).getD k 0) := by simp [List.getD, show k < (digs p m x).length by omega]
    have e2 : (digs p m y)[k]? = some ((digs p m y).getD k 0) := by simp [List.getD, show k < (digs p m y).length by omega]
    rw [List.getD_eq_getElem?_getD, List.getElem?_zipWith, e1, e2]
    rfl
  have HVL : Hid (∀ (l : List Nat) (Al : Option Addr) (W : World), l.length = m → (∀ d ∈ l, d < p) → IntsAt W W.heap.size Al (nz l) → Calls Tryz.prog 99 #[.agg #[.int .i64 p, .int .i64 m, .slice A n c], .slice Al m m] W fun e w' => e = .returned (.int .i64 ((val p l : Nat) : Int)) ∧ Below W.heap.size W w') := fun l Al W h1 h2 h3 => by
    have := rval_c p m A n c l Al m W h3 (by omega) h2 (by rw [h1]; have := hs.q; omega) (by omega) (by omega)
    rw [h1] at this
    exact this
  have HRD : Hid (∀ d ∈ List.zipWith (fun a b => (a + b) % p) (digs p m x) (digs p m y), d < p) := fun d hd => by
    obtain ⟨i, hi, rfl⟩ := List.mem_iff_getElem.1 hd
    rw [List.getElem_zipWith]
    exact Nat.mod_lt _ (by omega)
  have HLA := Lib.hid hla
  have HLR := Lib.hid hlr
  have HLB := Lib.hid hlb
  clear hs hx hy hla hlb hlr
  generalize List.zipWith (fun a b => (a + b) % p) (digs p m x) (digs p m y) = r at *
  generalize digs p m x = a at *
  generalize digs p m y = b at *
  have HRS := Lib.hid (fun k hk => rK_set r a (by rw [HLR.out, HLA.out]) k hk)
  have HRA := Lib.hid (fun k hk => rK_at r a (by rw [HLR.out, HLA.out]) k hk)
  have HRL := Lib.hid (fun k hk => rK_len r a (by rw [HLR.out, HLA.out]) k hk)
  have HRE := Lib.hid (rK_end r a (by rw [HLR.out, HLA.out]))
  go_enter Tryz.func97, Tryz.ntmps97
  go_upto_region 1 with fail
  have hsz0 : Hid (w.heap.size + 1 = (w.alloc (.cells #[.int .i64 (p : Int), .int .i64 (m : Int), .slice A n c] 24)).heap.size) := by show _ = _; simp
  generalize w.alloc (.cells #[.int .i64 (p : Int), .int .i64 (m : Int), .slice A n c] 24) = W0 at *
  have HRG0 := Lib.hid HX.out.range
  go_wp2_with (refine wpList_load_mid rfl 24 (.tmp 3) rfl w.heap.size 0 rfl [.int .i64 (p : Int), .int .i64 (m : Int), .slice A n c] _ HRG0.out Tryz.underlying24 rfl fieldSize ?_)
  (with_reducible refine (HD1.out W0).mono ?_)
  rintro e w1 ⟨⟨ga, rfl, hra⟩, hb1⟩
  have HX1 := Lib.hid (HX.out.grow hb1)
  have HRA1 : Hid (Row w1 (w.heap.size + 1) ga m (nz a)) := hra.base (by have := hra.lt; have := hsz0.out; omega)
  have hs1 := hb1.size
  clear hra hb1 HX HRG0
  have HRG0 := Lib.hid HX1.out.range
  go_wp2_with (refine wpList_load_mid rfl 24 (.tmp 3) rfl w.heap.size 0 rfl [.int .i64 (p : Int), .int .i64 (m : Int), .slice A n c] _ HRG0.out Tryz.underlying24 rfl fieldSize ?_)
  (with_reducible refine (HD2.out w1).mono ?_)
  rintro e w2 ⟨⟨gb, rfl, hrb⟩, hb2⟩
  have HX2 := Lib.hid (HX1.out.grow hb2)
  have HGB : Hid (ga < gb) := Nat.lt_of_lt_of_le HRA1.out.lt.2 hrb.lt.1
  have HRB2 : Hid (Row w2 (w.heap.size + 1) gb m (nz b)) := hrb.base (by have := hrb.lt; have := hsz0.out; omega)
  have HRA2 : Hid (Row w2 (w.heap.size + 1) ga m (nz a)) := HRA1.out.below hb2 HRA1.out.lt.2
  have HGA : Hid (w.heap.size < ga) := HRA1.out.lt.1
  clear hrb hb2 hs1 HX1 HRG0 HRA1 HD1 HD2
  clear w1
  have HS0 : Hid (RelAd2 w p m A n c ga gb r a b (.int .i64 ((0 : Nat) : Int)) w2) := ⟨0, Nat.zero_le _, rfl, by simpa [rK] using HRA2.out, HRB2.out, HX2.out⟩
  clear HX2 HRA2 HRB2
  go_wp2_with fail
  go_loopw [9] (fun v9 wr => RelAd2 w p m A n c ga gb r a b v9 wr) (fun v9 _ => m - (intOf v9).toNat)
  case atStart => exact HS0.out
  case round =>
    obtain ⟨k, hk, rfl, hra, hrb, hx⟩ := hrel
    have HRA3 := Lib.hid hra
    have HRB3 := Lib.hid hrb
    have HX3 := Lib.hid hx
    clear hra hrb hx HS0
    by_cases hlt : k < m
    · have ya : wr.cell? ⟨ga, k, none⟩ = some (.int .i64 ((a.getD k 0 : Nat) : Int)) := by
        rw [← HRA.out k (by rw [HLA.out]; exact hlt), ← nz_getD]
        exact HRA3.out.cell (by rw [nz_len, HRL.out k (by rw [HLA.out]; exact hk), HLA.out]; exact hlt)
      have yb : wr.cell? ⟨gb, k, none⟩ = some (.int .i64 ((b.getD k 0 : Nat) : Int)) := by
        rw [← nz_getD]
        exact HRB3.out.cell (by rw [nz_len, HLB.out]; exact hlt)
      have y0 := HX3.out.c0
      have f1 := HRA3.out.frozen k
      have HSET := Lib.hid (HRS.out k (by rw [HLA.out]; exact hlt))
      have HGT := Lib.hid (HRG.out k hlt)
      obtain ⟨hlx, hly⟩ := HLT.out k
      have T1 : Hid (Int.tmod ((a.getD k 0 + b.getD k 0 : Nat) : Int) (p : Int) = (((a.getD k 0 + b.getD k 0) % p : Nat) : Int)) := tmod_nat _ _
      generalize a.getD k 0 = u at *
      generalize b.getD k 0 = v at *
      have E1 : Hid (IntKind.i64.wrap ((u : Int) + (v : Int)) = ((u + v : Nat) : Int)) := by
        show _ = _
        rw [Int.natCast_add]
        exact IntWalk.i64_in _ (by omega)
      generalize (u + v) % p = z at *
      generalize u + v = uv at *
      have hp0 : ¬ (p : Int) = 0 := by omega
      have hp00 : ¬ p = 0 := by omega
      have k0 : (0 : Int) ≤ (k : Int) := by omega
      have k1 : (k : Int) < (m : Int) := by omega
      go_upto_region 6 with fail
      have e1 := E1.out
      have t1 := T1.out
      refine wp_region_keep_tail 15 (SDrew wr) (by kernel_rfl) (by kernel_rfl) ⟨1, rfl⟩ ?_
      simp only [List.take_succ_cons, List.take_zero, List.drop_succ_cons, List.drop_zero]
      repeat (apply keep_val rfl
              · intro W hS
                obtain ⟨n', rfl⟩ := hS
                go_simp
                rfl
              go_simp)
      refine wpKeep_nil ?_
      intro w3 hS3
      obtain ⟨n3, rfl⟩ := hS3
      clear e1 t1 yb y0
      go_wp2_with fail
      go_roundw
      case rel => exact ⟨k + 1, by omega, by go_num, by rw [← HSET.out, HGT.out, ← nz_set]; exact Row.set (w := wr.drewN n3) HRA3.out k z, Row.far (w := wr.drewN n3) HRB3.out (p := ⟨ga, k, none⟩) (by show gb ≠ ga; have := HGB.out; omega) _, (HX3.out.drewN n3).wrote HGA.out _⟩
      case measure => simp [intOf]; omega
    · obtain rfl : k = m := by omega
      have HRR : Hid (Row wr (w.heap.size + 1) ga k (nz r)) := by
        have := HRA3.out
        have e := HRE.out
        rw [HLA.out] at e
        rw [e] at this
        exact this
      have HCV := Lib.hid (HVL.out r (some ⟨ga, 0, none⟩) wr HLR.out HRD.out (HRR.out.ints HRR.out.lt.2))
      rw [← HRV.out] at HCV
      have HRG0 := Lib.hid HX3.out.range
      go_wp2_with (refine wpList_load_mid rfl 24 (.tmp 3) rfl w.heap.size 0 rfl [.int .i64 (p : Int), .int .i64 (k : Int), .slice A n c] _ HRG0.out Tryz.underlying24 rfl fieldSize ?_)
      (with_reducible refine HCV.out.mono ?_)
      rintro e w4 ⟨rfl, hb4⟩
      have HX4 := Lib.hid (HX3.out.grow hb4)
      clear hb4
      go_wp2_with fail
      go_ret
      exact ⟨rfl, HX4.out.1⟩
#print axioms radd_c
end Go.Proofs.YtcfejnnhcdlffaaGreat

/-
  The reference's field: Neg.
-/
namespace Go.Proofs.YtcfejnnhcdlffaaGreat
open Go.RowKit Pln

def RelNg2 (w : World) (p m : Nat) (A : Option Addr) (n c ga : Nat) (r a : List Nat) (v9 : Value) (wr : World) : Prop :=
  ∃ k : Nat, k ≤ m ∧ v9 = .int .i64 (k : Int) ∧ Row wr (w.heap.size + 1) ga m (nz (rK r a k)) ∧ SBoxF w p m A n c wr

set_option maxHeartbeats 1000000 in
set_option maxRecDepth 100000 in
theorem rneg_c (p m : Nat) (A : Option Addr) (n c x : Nat) (w : World) (hs : Small p m) (hx : x < p ^ m) : Calls Tryz.prog 60 #[.agg #[.int .i64 p, .int .i64 m, .slice A n c], .int .i64 x] w fun e w' => e = .returned (.int .i64 ((negD p m x : Nat) : Int)) ∧ Below w.heap.size w w' := by
  have HX := Lib.hid (sboxf_new w p m A n c)
  have HD1 : Hid (∀ W : World, Calls Tryz.prog 98 #[.agg #[.int .i64 p, .int .i64 m, .slice A n c], .int .i64 x] W fun e w' => (∃ g, e = .returned (.slice (some ⟨g, 0, none⟩) m m) ∧ Row w' W.heap.size g m (nz (digs p m x))) ∧ Below W.heap.size W w') := fun W => rdig_c p m A n c x W hs hx
  have hp1 := hs.p1
  have hp2 := hs.p2
  have hm2 := hs.m2
  have HRV := Lib.hid (negD_val p m x)
  have hla := digs_len p m x
  have HLT : Hid (∀ k, (digs p m x).getD k 0 < p) := fun k => getD_lt (by omega) (digs_dig (by omega) m x) k
  have hlr : ((digs p m x).map fun a => (p - a) % p).length = m := by rw [List.length_map, hla]
  have HRG : Hid (∀ k, k < m → ((digs p m x).map fun a => (p - a) % p).getD k 0 = (p - (digs p m x).getD k 0) % p) := fun k hk => by
    have e1 : (digs p m x)[k]? = some ((digs p m x).getD k 0) := by simp [List.getD, show k < (digs p m x).length by omega]
    rw [List.getD_eq_getElem?_getD, List.getElem?_map, e1]
    rfl
  have HVL : Hid (∀ (l : List Nat) (Al : Option Addr) (W : World), l.length = m → (∀ d ∈ l, d < p) → IntsAt W W.heap.size Al (nz l) → Calls Tryz.prog 99 #[.agg #[.int .i64 p, .int .i64 m, .slice A n c], .slice Al m m] W fun e w' => e = .returned (.int .i64 ((val p l : Nat) : Int)) ∧ Below W.heap.size W w') := fun l Al W h1 h2 h3 => by
    have := rval_c p m A n c l Al m W h3 (by omega) h2 (by rw [h1]; have := hs.q; omega) (by omega) (by omega)
    rw [h1] at this
    exact this
  have HRD : Hid (∀ d ∈ (digs p m x).map fun a => (p - a) % p, d < p) := fun d hd => by
    obtain ⟨i, _, rfl⟩ := List.mem_map.1 hd
    exact Nat.mod_lt _ (by omega)
  have HLA := Lib.hid hla
  have HLR := Lib.hid hlr
  clear hs hx hla hlr
  generalize ((digs p m x).map fun a => (p - a) % p) = r at *
  generalize digs p m x = a at *
  have HRS := Lib.hid (fun k hk => rK_set r a (by rw [HLR.out, HLA.out]) k hk)
  have HRA := Lib.hid (fun k hk => rK_at r a (by rw [HLR.out, HLA.out]) k hk)
  have HRL := Lib.hid (fun k hk => rK_len r a (by rw [HLR.out, HLA.out]) k hk)
  have HRE := Lib.hid (rK_end r a (by rw [HLR.out, HLA.out]))
  go_enter Tryz.func60, Tryz.ntmps60
  go_upto_region 1 with fail
  have hsz0 : Hid (w.heap.size + 1 = (w.alloc (.cells #[.int .i64 (p : Int), .int .i64 (m : Int), .slice A n c] 24)).heap.size) := by show _ = _; simp
  generalize w.alloc (.cells #[.int .i64 (p : Int), .int .i64 (m : Int), .slice A n c] 24) = W0 at *
  have HRG0 := Lib.hid HX.out.range
  go_wp2_with (refine wpList_load_mid rfl 24 (.tmp 2) rfl w.heap.size 0 rfl [.int .i64 (p : Int), .int .i64 (m : Int), .slice A n c] _ HRG0.out Tryz.underlying24 rfl fieldSize ?_)
  (with_reducible refine (HD1.out W0).mono ?_)
  rintro e w1 ⟨⟨ga, rfl, hra⟩, hb1⟩
  have HX1 := Lib.hid (HX.out.grow hb1)
  have HRA1 : Hid (Row w1 (w.heap.size + 1) ga m (nz a)) := hra.base (by have := hra.lt; have := hsz0.out; omega)
  have HGA : Hid (w.heap.size < ga) := HRA1.out.lt.1
  clear hra hb1 HX HRG0 HD1
  have HS0 : Hid (RelNg2 w p m A n c ga r a (.int .i64 ((0 : Nat) : Int)) w1) := ⟨0, Nat.zero_le _, rfl, by simpa [rK] using HRA1.out, HX1.out⟩
  clear HX1 HRA1
  go_wp2_with fail
  go_loopw [6] (fun v9 wr => RelNg2 w p m A n c ga r a v9 wr) (fun v9 _ => m - (intOf v9).toNat)
  case atStart => exact HS0.out
  case round =>
    obtain ⟨k, hk, rfl, hra, hx⟩ := hrel
    have HRA3 := Lib.hid hra
    have HX3 := Lib.hid hx
    clear hra hx HS0
    by_cases hlt : k < m
    · have ya : wr.cell? ⟨ga, k, none⟩ = some (.int .i64 ((a.getD k 0 : Nat) : Int)) := by
        rw [← HRA.out k (by rw [HLA.out]; exact hlt), ← nz_getD]
        exact HRA3.out.cell (by rw [nz_len, HRL.out k (by rw [HLA.out]; exact hk), HLA.out]; exact hlt)
      have y0 := HX3.out.c0
      have f1 := HRA3.out.frozen k
      have HSET := Lib.hid (HRS.out k (by rw [HLA.out]; exact hlt))
      have HGT := Lib.hid (HRG.out k hlt)
      have hlx := HLT.out k
      have T1 : Hid (Int.tmod ((p - a.getD k 0 : Nat) : Int) (p : Int) = (((p - a.getD k 0) % p : Nat) : Int)) := tmod_nat _ _
      generalize a.getD k 0 = u at *
      have E1 : Hid (IntKind.i64.wrap ((p : Int) - (u : Int)) = ((p - u : Nat) : Int)) := by
        show _ = _
        rw [Int.natCast_sub (by omega)]
        exact IntWalk.i64_in _ (by omega)
      generalize (p - u) % p = z at *
      generalize p - u = uv at *
      have hp0 : ¬ (p : Int) = 0 := by omega
      have hp00 : ¬ p = 0 := by omega
      have k0 : (0 : Int) ≤ (k : Int) := by omega
      have k1 : (k : Int) < (m : Int) := by omega
      go_upto_region 5 with fail
      have e1 := E1.out
      have t1 := T1.out
      refine wp_region_keep_tail 13 (SDrew wr) (by kernel_rfl) (by kernel_rfl) ⟨1, rfl⟩ ?_
      simp only [List.take_succ_cons, List.take_zero, List.drop_succ_cons, List.drop_zero]
      repeat (apply keep_val rfl
              · intro W hS
                obtain ⟨n', rfl⟩ := hS
                go_simp
                rfl
              go_simp)
      refine wpKeep_nil ?_
      intro w3 hS3
      obtain ⟨n3, rfl⟩ := hS3
      clear e1 t1 y0
      go_wp2_with fail
      go_roundw
      case rel => exact ⟨k + 1, by omega, by go_num, by rw [← HSET.out, HGT.out, ← nz_set]; exact Row.set (w := wr.drewN n3) HRA3.out k z, (HX3.out.drewN n3).wrote HGA.out _⟩
      case measure => simp [intOf]; omega
    · obtain rfl : k = m := by omega
      have HRR : Hid (Row wr (w.heap.size + 1) ga k (nz r)) := by
        have := HRA3.out
        have e := HRE.out
        rw [HLA.out] at e
        rw [e] at this
        exact this
      have HCV := Lib.hid (HVL.out r (some ⟨ga, 0, none⟩) wr HLR.out HRD.out (HRR.out.ints HRR.out.lt.2))
      rw [← HRV.out] at HCV
      have HRG0 := Lib.hid HX3.out.range
      go_wp2_with (refine wpList_load_mid rfl 24 (.tmp 2) rfl w.heap.size 0 rfl [.int .i64 (p : Int), .int .i64 (k : Int), .slice A n c] _ HRG0.out Tryz.underlying24 rfl fieldSize ?_)
      (with_reducible refine HCV.out.mono ?_)
      rintro e w4 ⟨rfl, hb4⟩
      have HX4 := Lib.hid (HX3.out.grow hb4)
      clear hb4
      go_wp2_with fail
      go_ret
      exact ⟨rfl, HX4.out.1⟩
#print axioms rneg_c
end Go.Proofs.YtcfejnnhcdlffaaGreat
