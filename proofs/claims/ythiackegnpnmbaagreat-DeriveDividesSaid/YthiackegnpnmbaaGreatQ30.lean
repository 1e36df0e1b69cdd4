/-
  The reference's field: Add, Neg. The reference's field: Neg.
-/
import Derived.Test.YthiackegnpnmbaaGreatQ29
namespace Go.Proofs.YthiackegnpnmbaaGreat
open Go.RowKit Pln

/-- The first k places of a row are those of r. -/
def rK (r a : List Nat) (k : Nat) : List Nat := r.take k ++ a.drop k
theorem rK_len (r a : List Nat) (hl : r.length = a.length) (k : Nat) (hk : k ≤ a.length) : (rK r a k).length = a.length := by
  unfold rK
  rw [List.length_append, List.length_take, List.length_drop]
  omega
theorem rK_at (r a : List Nat) (hl : r.length = a.length) (k : Nat) (hk : k < a.length) : (rK r a k).getD k 0 = a.getD k 0 := by
  unfold rK
  have h : (r.take k).length = k := by rw [List.length_take]; omega
  simp only [List.getD]
  rw [List.getElem?_append_right (by omega), h, Nat.sub_self, List.getElem?_drop, Nat.add_zero]
theorem rK_set (r a : List Nat) (hl : r.length = a.length) (k : Nat) (hk : k < a.length) : (rK r a k).set k (r.getD k 0) = rK r a (k + 1) := by
  unfold rK
  have h : (r.take k).length = k := by rw [List.length_take]; omega
  rw [List.set_append_right _ _ (by omega), h, Nat.sub_self, List.drop_eq_getElem_cons hk, List.set_cons_zero, List.take_succ_eq_append_getElem (l := r) (by omega), List.append_assoc]
  simp [List.getD, show k < r.length by omega]
theorem rK_end (r a : List Nat) (hl : r.length = a.length) : rK r a a.length = r := by
  unfold rK
  rw [← hl, List.take_length, hl, List.drop_length, List.append_nil]
theorem SBoxF.wrote {w : World} {p m : Int} {A : Option Addr} {n c : Nat} {W : World} (h : SBoxF w p m A n c W) {g k : Nat} (hg : w.heap.size < g) (u : Value) : SBoxF w p m A n c (W.setCell ⟨g, k, none⟩ u) :=
  ⟨h.1.setCell (p := ⟨g, k, none⟩) (Nat.le_of_lt hg) u, by simpa using h.2.1, (Below.heap_setCell W ⟨g, k, none⟩ u w.heap.size (by show w.heap.size ≠ g; omega)).trans h.2.2⟩
theorem SBoxF.drewN {w : World} {p m : Int} {A : Option Addr} {n c : Nat} {W : World} (h : SBoxF w p m A n c W) (k : Nat) : SBoxF w p m A n c (W.drewN k) := ⟨below_drewN h.1 k, h.2.1, h.2.2⟩
def RelAd2 (w : World) (p m : Nat) (A : Option Addr) (n c ga gb : Nat) (r a b : List Nat) (v9 : Value) (wr : World) : Prop :=
  ∃ k : Nat, k ≤ m ∧ v9 = .int .i64 (k : Int) ∧ Row wr (w.heap.size + 1) ga m (nz (rK r a k)) ∧ Row wr (w.heap.size + 1) gb m (nz b) ∧ SBoxF w p m A n c wr

set_option maxHeartbeats 1000000 in
set_option maxRecDepth 100000 in
theorem radd_c (p m : Nat) (A : Option Addr) (n c x y : Nat) (w : World) (hs : Small p m) (hx : x < p ^ m) (hy : y < p ^ m) : Calls Tryz.prog 89 #[.agg #[.int .i64 p, .int .i64 m, .slice A n c], .int .i64 x, .int .i64 y] w fun e w' => e = .returned (.int .i64 ((addD p m x y : Nat) : Int)) ∧ Below w.heap.size w w' := by
  have HX := Lib.hid (sboxf_new w p m A n c)
  have HD1 : Hid (∀ W : World, Calls Tryz.prog 151 #[.agg #[.int .i64 p, .int .i64 m, .slice A n c], .int .i64 x] W fun e w' => (∃ g, e = .returned (.slice (some ⟨g, 0, none⟩) m m) ∧ Row w' W.heap.size g m (nz (digs p m x))) ∧ Below W.heap.size W w') := fun W => rdig_c p m A n c x W hs hx
  have HD2 : Hid (∀ W : World, Calls Tryz.prog 151 #[.agg #[.int .i64 p, .int .i64 m, .slice A n c], .int .i64 y] W fun e w' => (∃ g, e = .returned (.slice (some ⟨g, 0, none⟩) m m) ∧ Row w' W.heap.size g m (nz (digs p m y))) ∧ Below W.heap.size W w') := fun W => rdig_c p m A n c y W hs hy
  have hp1 := hs.p1
  have hp2 := hs.p2
  have hm2 := hs.m2
  have HRV := Lib.hid (addD_val p m x y)
  have hla := digs_len p m x
  have hlb := digs_len p m y
  have HLT : Hid (∀ k, (digs p m x).getD k 0 < p ∧ (digs p m y).getD k 0 < p) := fun k => ⟨getD_lt (by omega) (digs_dig (by omega) m x) k, getD_lt (by omega) (digs_dig (by omega) m y) k⟩
  have hlr : (List.zipWith (fun a b => (a + b) % p) (digs p m x) (digs p m y)).length = m := by rw [List.length_zipWith, hla, hlb, Nat.min_self]
  have HRG : Hid (∀ k, k < m → (List.zipWith (fun a b => (a + b) % p) (digs p m x) (digs p m y)).getD k 0 = ((digs p m x).getD k 0 + (digs p m y).getD k 0) % p) := fun k hk => by
    have e1 : (digs p m x)[k]? = some ((digs p m x).getD k 0) := by simp [List.getD, show k < (digs p m x).length by omega]
    have e2 : (digs p m y)[k]? = some ((digs p m y).getD k 0) := by simp [List.getD, show k < (digs p m y).length by omega]
    rw [List.getD_eq_getElem?_getD, List.getElem?_zipWith, e1, e2]
    rfl
  have HVL : Hid (∀ (l : List Nat) (Al : Option Addr) (W : World), l.length = m → (∀ d ∈ l, d < p) → IntsAt W W.heap.size Al (nz l) → Calls Tryz.prog 152 #[.agg #[.int .i64 p, .int .i64 m, .slice A n c], .slice Al m m] W fun e w' => e = .returned (.int .i64 ((val p l : Nat) : Int)) ∧ Below W.heap.size W w') := fun l Al W h1 h2 h3 => by
    have := rval_c p m A n c l Al m W h3 (by omega) h2 (by rw [h1]; have := hs.q; omega) (by omega) (by omega)
    rw [h1] at this
    exact this
  have HRD : Hid (∀ d ∈ List.zipWith (fun a b => (a + b) % p) (digs p m x) (digs p m y), d < p) := fun d hd => by
    obtain ⟨i, hi, rfl⟩ := List.mem_iff_getElem.1 hd
    rw [List.getElem_zipWith]
    exact Nat.mod_lt _ (by omega)
  have HLA := Lib.hid hla
  have HLR := Lib.hid hlr
  have HLB := Lib.hid hlb
  clear hs hx hy hla hlb hlr
  generalize List.zipWith (fun a b => (a + b) % p) (digs p m x) (digs p m y) = r at *
  generalize digs p m x = a at *
  generalize digs p m y = b at *
  have HRS := Lib.hid (fun k hk => rK_set r a (by rw [HLR.out, HLA.out]) k hk)
  have HRA := Lib.hid (fun k hk => rK_at r a (by rw [HLR.out, HLA.out]) k hk)
  have HRL := Lib.hid (fun k hk => rK_len r a (by rw [HLR.out, HLA.out]) k hk)
  have HRE := Lib.hid (rK_end r a (by rw [HLR.out, HLA.out]))
  go_enter Tryz.func89, Tryz.ntmps89
  go_upto_region 1 with fail
  have hsz0 : Hid (w.heap.size + 1 = (w.alloc (.cells #[.int .i64 (p : Int), .int .i64 (m : Int), .slice A n c] 27)).heap.size) := by show _ = _; simp
  generalize w.alloc (.cells #[.int .i64 (p : Int), .int .i64 (m : Int), .slice A n c] 27) = W0 at *
  have HRG0 := Lib.hid HX.out.range
  go_wp2_with (refine wpList_load_mid rfl 27 (.tmp 3) rfl w.heap.size 0 rfl [.int .i64 (p : Int), .int .i64 (m : Int), .slice A n c] _ HRG0.out Tryz.underlying27 rfl fieldSize ?_)
  (with_reducible refine (HD1.out W0).mono ?_)
  rintro e w1 ⟨⟨ga, rfl, hra⟩, hb1⟩
  have HX1 := Lib.hid (HX.out.grow hb1)
  have HRA1 : Hid (Row w1 (w.heap.size + 1) ga m (nz a)) := hra.base (by have := hra.lt; have := hsz0.out; omega)
  have hs1 := hb1.size
  clear hra hb1 HX HRG0
  have HRG0 := Lib.hid HX1.out.range
  go_wp2_with (refine wpList_load_mid rfl 27 (.tmp 3) rfl w.heap.size 0 rfl [.int .i64 (p : Int), .int .i64 (m : Int), .slice A n c] _ HRG0.out Tryz.underlying27 rfl fieldSize ?_)
  (with_reducible refine (HD2.out w1).mono ?_)
  rintro e w2 ⟨⟨gb, rfl, hrb⟩, hb2⟩
  have HX2 := Lib.hid (HX1.out.grow hb2)
  have HGB : Hid (ga < gb) := Nat.lt_of_lt_of_le HRA1.out.lt.2 hrb.lt.1
  have HRB2 : Hid (Row w2 (w.heap.size + 1) gb m (nz b)) := hrb.base (by have := hrb.lt; have := hsz0.out; omega)
  have HRA2 : Hid (Row w2 (w.heap.size + 1) ga m (nz a)) := HRA1.out.below hb2 HRA1.out.lt.2
  have HGA : Hid (w.heap.size < ga) := HRA1.out.lt.1
  clear hrb hb2 hs1 HX1 HRG0 HRA1 HD1 HD2
  clear w1
  have HS0 : Hid (RelAd2 w p m A n c ga gb r a b (.int .i64 ((0 : Nat) : Int)) w2) := ⟨0, Nat.zero_le _, rfl, by simpa [rK] using HRA2.out, HRB2.out, HX2.out⟩
  clear HX2 HRA2 HRB2
  go_wp2_with fail
  go_loopw [9] (fun v9 wr => RelAd2 w p m A n c ga gb r a b v9 wr) (fun v9 _ => m - (intOf v9).toNat)
  case atStart => exact HS0.out
  case round =>
    obtain ⟨k, hk, rfl, hra, hrb, hx⟩ := hrel
    have HRA3 := Lib.hid hra
    have HRB3 := Lib.hid hrb
    have HX3 := Lib.hid hx
    clear hra hrb hx HS0
    by_cases hlt : k < m
    · have ya : wr.cell? ⟨ga, k, none⟩ = some (.int .i64 ((a.getD k 0 : Nat) : Int)) := by
        rw [← HRA.out k (by rw [HLA.out]; exact hlt), ← nz_getD]
        exact HRA3.out.cell (by rw [nz_len, HRL.out k (by rw [HLA.out]; exact hk), HLA.out]; exact hlt)
      have yb : wr.cell? ⟨gb, k, none⟩ = some (.int .i64 ((b.getD k 0 : Nat) : Int)) := by
        rw [← nz_getD]
        exact HRB3.out.cell (by rw [nz_len, HLB.out]; exact hlt)
      have y0 := HX3.out.c0
      have f1 := HRA3.out.frozen k
      have HSET := Lib.hid (HRS.out k (by rw [HLA.out]; exact hlt))
      have HGT := Lib.hid (HRG.out k hlt)
      obtain ⟨hlx, hly⟩ := HLT.out k
      have T1 : Hid (Int.tmod ((a.getD k 0 + b.getD k 0 : Nat) : Int) (p : Int) = (((a.getD k 0 + b.getD k 0) % p : Nat) : Int)) := tmod_nat _ _
      generalize a.getD k 0 = u at *
      generalize b.getD k 0 = v at *
      have E1 : Hid (IntKind.i64.wrap ((u : Int) + (v : Int)) = ((u + v : Nat) : Int)) := by
        show _ = _
        rw [Int.natCast_add]
        exact IntWalk.i64_in _ (by omega)
      generalize (u + v) % p = z at *
      generalize u + v = uv at *
      have hp0 : ¬ (p : Int) = 0 := by omega
      have hp00 : ¬ p = 0 := by omega
      have k0 : (0 : Int) ≤ (k : Int) := by omega
      have k1 : (k : Int) < (m : Int) := by omega
      go_upto_region 6 with fail
      have e1 := E1.out
      have t1 := T1.out
      refine wp_region_keep_tail 15 (SDrew wr) (by kernel_rfl) (by kernel_rfl) ⟨1, rfl⟩ ?_
      simp only [List.take_succ_cons, List.take_zero, List.drop_succ_cons, List.drop_zero]
      repeat (apply keep_val rfl
              · intro W hS
                obtain ⟨n', rfl⟩ := hS
                go_simp
                rfl
              go_simp)
      refine wpKeep_nil ?_
      intro w3 hS3
      obtain ⟨n3, rfl⟩ := hS3
      clear e1 t1 yb y0
      go_wp2_with fail
      go_roundw
      case rel => exact ⟨k + 1, by omega, by go_num, by rw [← HSET.out, HGT.out, ← nz_set]; exact Row.set (w := wr.drewN n3) HRA3.out k z, Row.far (w := wr.drewN n3) HRB3.out (p := ⟨ga, k, none⟩) (by show gb ≠ ga; have := HGB.out; omega) _, (HX3.out.drewN n3).wrote HGA.out _⟩
      case measure => simp [intOf]; omega
    · obtain rfl : k = m := by omega
      have HRR : Hid (Row wr (w.heap.size + 1) ga k (nz r)) := by
        have := HRA3.out
        have e := HRE.out
        rw [HLA.out] at e
        rw [e] at this
        exact this
      have HCV := Lib.hid (HVL.out r (some ⟨ga, 0, none⟩) wr HLR.out HRD.out (HRR.out.ints HRR.out.lt.2))
      rw [← HRV.out] at HCV
      have HRG0 := Lib.hid HX3.out.range
      go_wp2_with (refine wpList_load_mid rfl 27 (.tmp 3) rfl w.heap.size 0 rfl [.int .i64 (p : Int), .int .i64 (k : Int), .slice A n c] _ HRG0.out Tryz.underlying27 rfl fieldSize ?_)
      (with_reducible refine HCV.out.mono ?_)
      rintro e w4 ⟨rfl, hb4⟩
      have HX4 := Lib.hid (HX3.out.grow hb4)
      clear hb4
      go_wp2_with fail
      go_ret
      exact ⟨rfl, HX4.out.1⟩
end Go.Proofs.YthiackegnpnmbaaGreat

namespace Go.Proofs.YthiackegnpnmbaaGreat
open Go.RowKit Pln

def RelNg2 (w : World) (p m : Nat) (A : Option Addr) (n c ga : Nat) (r a : List Nat) (v9 : Value) (wr : World) : Prop :=
  ∃ k : Nat, k ≤ m ∧ v9 = .int .i64 (k : Int) ∧ Row wr (w.heap.size + 1) ga m (nz (rK r a k)) ∧ SBoxF w p m A n c wr

set_option maxHeartbeats 1000000 in
set_option maxRecDepth 100000 in
theorem rneg_c (p m : Nat) (A : Option Addr) (n c x : Nat) (w : World) (hs : Small p m) (hx : x < p ^ m) : Calls Tryz.prog 150 #[.agg #[.int .i64 p, .int .i64 m, .slice A n c], .int .i64 x] w fun e w' => e = .returned (.int .i64 ((negD p m x : Nat) : Int)) ∧ Below w.heap.size w w' := by
  have HX := Lib.hid (sboxf_new w p m A n c)
  have HD1 : Hid (∀ W : World, Calls Tryz.prog 151 #[.agg #[.int .i64 p, .int .i64 m, .slice A n c], .int .i64 x] W fun e w' => (∃ g, e = .returned (.slice (some ⟨g, 0, none⟩) m m) ∧ Row w' W.heap.size g m (nz (digs p m x))) ∧ Below W.heap.size W w') := fun W => rdig_c p m A n c x W hs hx
  have hp1 := hs.p1
  have hp2 := hs.p2
  have hm2 := hs.m2
  have HRV := Lib.hid (negD_val p m x)
  have hla := digs_len p m x
  have HLT : Hid (∀ k, (digs p m x).getD k 0 < p) := fun k => getD_lt (by omega) (digs_dig (by omega) m x) k
  have hlr : ((digs p m x).map fun a => (p - a) % p).length = m := by rw [List.length_map, hla]
  have HRG : Hid (∀ k, k < m → ((digs p m x).map fun a => (p - a) % p).getD k 0 = (p - (digs p m x).getD k 0) % p) := fun k hk => by
    have e1 : (digs p m x)[k]? = some ((digs p m x).getD k 0) := by simp [List.getD, show k < (digs p m x).length by omega]
    rw [List.getD_eq_getElem?_getD, List.getElem?_map, e1]
    rfl
  have HVL : Hid (∀ (l : List Nat) (Al : Option Addr) (W : World), l.length = m → (∀ d ∈ l, d < p) → IntsAt W W.heap.size Al (nz l) → Calls Tryz.prog 152 #[.agg #[.int .i64 p, .int .i64 m, .slice A n c], .slice Al m m] W fun e w' => e = .returned (.int .i64 ((val p l : Nat) : Int)) ∧ Below W.heap.size W w') := fun l Al W h1 h2 h3 => by
    have := rval_c p m A n c l Al m W h3 (by omega) h2 (by rw [h1]; have := hs.q; omega) (by omega) (by omega)
    rw [h1] at this
    exact this
  have HRD : Hid (∀ d ∈ (digs p m x).map fun a => (p - a) % p, d < p) := fun d hd => by
    obtain ⟨i, _, rfl⟩ := List.mem_map.1 hd
    exact Nat.mod_lt _ (by omega)
  have HLA := Lib.hid hla
  have HLR := Lib.hid hlr
  clear hs hx hla hlr
  generalize ((digs p m x).map fun a => (p - a) % p) = r at *
  generalize digs p m x = a at *
  have HRS := Lib.hid (fun k hk => rK_set r a (by rw [HLR.out, HLA.out]) k hk)
  have HRA := Lib.hid (fun k hk => rK_at r a (by rw [HLR.out, HLA.out]) k hk)
  have HRL := Lib.hid (fun k hk => rK_len r a (by rw [HLR.out, HLA.out]) k hk)
  have HRE := Lib.hid (rK_end r a (by rw [HLR.out, HLA.out]))
  go_enter Tryz.func150, Tryz.ntmps150
  go_upto_region 1 with fail
  have hsz0 : Hid (w.heap.size + 1 = (w.alloc (.cells #[.int .i64 (p : Int), .int .i64 (m : Int), .slice A n c] 27)).heap.size) := by show _ = _; simp
  generalize w.alloc (.cells #[.int .i64 (p : Int), .int .i64 (m : Int), .slice A n c] 27) = W0 at *
  have HRG0 := Lib.hid HX.out.range
  go_wp2_with (refine wpList_load_mid rfl 27 (.tmp 2) rfl w.heap.size 0 rfl [.int .i64 (p : Int), .int .i64 (m : Int), .slice A n c] _ HRG0.out Tryz.underlying27 rfl fieldSize ?_)
  (with_reducible refine (HD1.out W0).mono ?_)
  rintro e w1 ⟨⟨ga, rfl, hra⟩, hb1⟩
  have HX1 := Lib.hid (HX.out.grow hb1)
  have HRA1 : Hid (Row w1 (w.heap.size + 1) ga m (nz a)) := hra.base (by have := hra.lt; have := hsz0.out; omega)
  have HGA : Hid (w.heap.size < ga) := HRA1.out.lt.1
  clear hra hb1 HX HRG0 HD1
  have HS0 : Hid (RelNg2 w p m A n c ga r a (.int .i64 ((0 : Nat) : Int)) w1) := ⟨0, Nat.zero_le _, rfl, by simpa [rK] using HRA1.out, HX1.out⟩
  clear HX1 HRA1
  go_wp2_with fail
  go_loopw [6] (fun v9 wr => RelNg2 w p m A n c ga r a v9 wr) (fun v9 _ => m - (intOf v9).toNat)
  case atStart => exact HS0.out
  case round =>
    obtain ⟨k, hk, rfl, hra, hx⟩ := hrel
    have HRA3 := Lib.hid hra
    have HX3 := Lib.hid hx
    clear hra hx HS0
    by_cases hlt : k < m
    · have ya : wr.cell? ⟨ga, k, none⟩ = some (.int .i64 ((a.getD k 0 : Nat) : Int)) := by
        rw [← HRA.out k (by rw [HLA.out]; exact hlt), ← nz_getD]
        exact HRA3.out.cell (by rw [nz_len, HRL.out k (by rw [HLA.out]; exact hk), HLA.out]; exact hlt)
      have y0 := HX3.out.c0
      have f1 := HRA3.out.frozen k
      have HSET := Lib.hid (HRS.out k (by rw [HLA.out]; exact hlt))
      have HGT := Lib.hid (HRG.out k hlt)
      have hlx := HLT.out k
      have T1 : Hid (Int.tmod ((p - a.getD k 0 : Nat) : Int) (p : Int) = (((p - a.getD k 0) % p : Nat) : Int)) := tmod_nat _ _
      generalize a.getD k 0 = u at *
      have E1 : Hid (IntKind.i64.wrap ((p : Int) - (u : Int)) = ((p - u : Nat) : Int)) := by
        show _ = _
        rw [Int.natCast_sub (by omega)]
        exact IntWalk.i64_in _ (by omega)
      generalize (p - u) % p = z at *
      generalize p - u = uv at *
      have hp0 : ¬ (p : Int) = 0 := by omega
      have hp00 : ¬ p = 0 := by omega
      have k0 : (0 : Int) ≤ (k : Int) := by omega
      have k1 : (k : Int) < (m : Int) := by omega
      go_upto_region 5 with fail
      have e1 := E1.out
      have t1 := T1.out
      refine wp_region_keep_tail 13 (SDrew wr) (by kernel_rfl) (by kernel_rfl) ⟨1, rfl⟩ ?_
      simp only [List.take_succ_cons, List.take_zero, List.drop_succ_cons, List.drop_zero]
      repeat (apply keep_val rfl
              · intro W hS
                obtain ⟨n', rfl⟩ := hS
                go_simp
                rfl
              go_simp)
      refine wpKeep_nil ?_
      intro w3 hS3
      obtain ⟨n3, rfl⟩ := hS3
      clear e1 t1 y0
      go_wp2_with fail
      go_roundw
      case rel => exact ⟨k + 1, by omega, by go_num, by rw [← HSET.out, HGT.out, ← nz_set]; exact Row.set (w := wr.drewN n3) HRA3.out k z, (HX3.out.drewN n3).wrote HGA.out _⟩
      case measure => simp [intOf]; omega
    · obtain rfl : k = m := by omega
      have HRR : Hid (Row wr (w.heap.size + 1) ga k (nz r)) := by
        have := HRA3.out
        have e := HRE.out
        rw [HLA.out] at e
        rw [e] at this
        exact this
      have HCV := Lib.hid (HVL.out r (some ⟨ga, 0, none⟩) wr HLR.out HRD.out (HRR.out.ints HRR.out.lt.2))
      rw [← HRV.out] at HCV
      have HRG0 := Lib.hid HX3.out.range
      go_wp2_with (refine wpList_load_mid rfl 27 (.tmp 2) rfl w.heap.size 0 rfl [.int .i64 (p : Int), .int .i64 (k : Int), .slice A n c] _ HRG0.out Tryz.underlying27 rfl fieldSize ?_)
      (with_reducible refine HCV.out.mono ?_)
      rintro e w4 ⟨rfl, hb4⟩
      have HX4 := Lib.hid (HX3.out.grow hb4)
      clear hb4
      go_wp2_with fail
      go_ret
      exact ⟨rfl, HX4.out.1⟩
end Go.Proofs.YthiackegnpnmbaaGreat

