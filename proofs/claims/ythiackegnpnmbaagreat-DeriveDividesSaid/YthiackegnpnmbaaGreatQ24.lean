/-
  field.Same at any two fields, derive.same at any two codes. derive.one at the rule of divisible codes. derive.premises at three rules; derive.follows at one premise.
-/
import Derived.Deep.RegionHeld3
import Derived.Test.YthiackegnpnmbaaGreatQ23
import Derived.Test.YthiackegnpnmbaaGreatQ16
import Derived.Test.YthiackegnpnmbaaGreatQ22
import Derived.Test.YthiackegnpnmbaaGreatQ19
import Derived.Test.YthiackegnpnmbaaGreatQ02
namespace Go.Proofs.YthiackegnpnmbaaGreat
open Go.RowKit Pln

/-- Two boxes of one type. -/
def TB (w : World) (cs ds : List Value) (t : TypeId) (W : World) : Prop := W.heap[w.heap.size]? = some (.cells cs.toArray t (0, 0)) ∧ W.heap[w.heap.size + 1]? = some (.cells ds.toArray t (0, 0)) ∧ Below w.heap.size w W ∧ w.heap.size + 1 < W.heap.size
section
variable {w : World} {cs ds : List Value} {t : TypeId} {W W' : World}
theorem TB.grow (h : TB w cs ds t W) (hb : Below W.heap.size W W') : TB w cs ds t W' := by
  obtain ⟨h1, h2, h3, h4⟩ := h
  exact ⟨(hb.block _ (by omega)).trans h1, (hb.block _ (by omega)).trans h2, h3.trans (hb.mono (by omega)), Nat.lt_of_lt_of_le h4 hb.size⟩
theorem TB.below (h : TB w cs ds t W) : Below w.heap.size w W := h.2.2.1
theorem TB.cell (h : TB w cs ds t W) {k : Nat} {v : Value} (hv : cs[k]? = some v) : W.cell? ⟨w.heap.size, k, none⟩ = some v := by
  rw [cell_of_row W w.heap.size k _ _ _ h.1]
  simpa using hv
theorem TB.cell1 (h : TB w cs ds t W) {k : Nat} {v : Value} (hv : ds[k]? = some v) : W.cell? ⟨w.heap.size + 1, k, none⟩ = some v := by
  rw [cell_of_row W (w.heap.size + 1) k _ _ _ h.2.1]
  simpa using hv
theorem TB.sub (h : TB w cs ds t W) (o : Nat) (es : List Value) (hd : ∀ j, j < es.length → cs[o + j]? = es[j]?) : W.rangeAt w.heap.size o es := fun j v hv => by
  have hj : j < es.length := (List.getElem?_eq_some_iff.1 hv).1
  have h1 := hd j hj
  rw [hv] at h1
  have := range_of_row h.1 (o + j) v h1
  rw [Nat.zero_add] at this
  exact this
theorem TB.sub1 (h : TB w cs ds t W) (o : Nat) (es : List Value) (hd : ∀ j, j < es.length → ds[o + j]? = es[j]?) : W.rangeAt (w.heap.size + 1) o es := fun j v hv => by
  have hj : j < es.length := (List.getElem?_eq_some_iff.1 hv).1
  have h1 := hd j hj
  rw [hv] at h1
  have := range_of_row h.2.1 (o + j) v h1
  rw [Nat.zero_add] at this
  exact this
end
theorem tb_new (w : World) (cs ds : List Value) (t : TypeId) : TB w cs ds t ((w.alloc (.cells cs.toArray t)).alloc (.cells ds.toArray t)) := by
  refine ⟨(Below.heap_alloc _ _ _ (by simp)).trans (heap_alloc_new _ _), ?_, (((Below.refl _ _).alloc (Nat.le_refl _) _).alloc (by simp) _), by simp⟩
  have := heap_alloc_new (w.alloc (.cells cs.toArray t)) (.cells ds.toArray t)
  rw [show (w.alloc (.cells cs.toArray t)).heap.size = w.heap.size + 1 by simp] at this
  exact this

def RelPS (w : World) (cs ds : List Value) (t : TypeId) (mod mod' : List Int) (v : Value) (wr : World) : Prop := ∃ k : Nat, k ≤ mod.length ∧ v = .int .i64 k ∧ TB w cs ds t wr ∧ mod.take k = mod'.take k
theorem take_ext {l l' : List Int} {k : Nat} (h : l.take k = l'.take k) (h1 : k < l.length) (h2 : k < l'.length) (e : l.getD k 0 = l'.getD k 0) : l.take (k + 1) = l'.take (k + 1) := by
  rw [List.take_add_one, List.take_add_one, h, List.getElem?_eq_getElem h1, List.getElem?_eq_getElem h2]
  have e1 : l.getD k 0 = l[k] := by simp [List.getD, h1]
  have e2 : l'.getD k 0 = l'[k] := by simp [List.getD, h2]
  rw [e1, e2] at e
  rw [e]

set_option maxHeartbeats 1000000 in
set_option maxRecDepth 100000 in
theorem psame_c (p m p' m' : Int) (mod mod' : List Int) (A A' : Option Addr) (c c' : Nat) (w : World) (hA : IntsAt w w.heap.size A mod) (hA' : IntsAt w w.heap.size A' mod') (hl : mod.length ≤ 9223372036854775807) :
    Calls Tryz.prog 81 #[.agg #[.int .i64 p, .int .i64 m, .slice A mod.length c], .agg #[.int .i64 p', .int .i64 m', .slice A' mod'.length c']] w fun e w' => e = .returned (.bool (decide (p = p' ∧ m = m' ∧ mod = mod'))) ∧ Below w.heap.size w w' := by
  have HX := Lib.hid (tb_new w [.int .i64 p, .int .i64 m, .slice A mod.length c] [.int .i64 p', .int .i64 m', .slice A' mod'.length c'] 27)
  have HA := Lib.hid hA
  have HA' := Lib.hid hA'
  have HD := Lib.hid (rfl : decide (p = p' ∧ m = m' ∧ mod = mod') = decide (p = p' ∧ m = m' ∧ mod = mod'))
  clear hA hA'
  generalize hdd : decide (p = p' ∧ m = m' ∧ mod = mod') = dd at *
  have HDD := Lib.hid hdd
  clear hdd HD
  go_enter Tryz.func81, Tryz.ntmps81
  go_upto_region 1 with fail
  generalize (w.alloc (.cells #[.int .i64 p, .int .i64 m, .slice A mod.length c] 27)).alloc (.cells #[.int .i64 p', .int .i64 m', .slice A' mod'.length c'] 27) = W0 at *
  have a0 : W0.cell? ⟨w.heap.size, 0, none⟩ = some (.int .i64 p) := HX.out.cell rfl
  have a1 : W0.cell? ⟨w.heap.size, 1, none⟩ = some (.int .i64 m) := HX.out.cell rfl
  have a2 : W0.cell? ⟨w.heap.size, 2, none⟩ = some (.slice A mod.length c) := HX.out.cell rfl
  have d0 : W0.cell? ⟨w.heap.size + 1, 0, none⟩ = some (.int .i64 p') := HX.out.cell1 rfl
  have d1 : W0.cell? ⟨w.heap.size + 1, 1, none⟩ = some (.int .i64 m') := HX.out.cell1 rfl
  have d2 : W0.cell? ⟨w.heap.size + 1, 2, none⟩ = some (.slice A' mod'.length c') := HX.out.cell1 rfl
  by_cases hp : p = p'
  · have ep : (p != p') = false := bne_eq_false_iff_eq.2 hp
    by_cases hm : m = m'
    · have em : (m != m') = false := bne_eq_false_iff_eq.2 hm
      by_cases hlen : mod.length = mod'.length
      · have el : ((mod.length : Int) != (mod'.length : Int)) = false := by simp [hlen]
        have HP := Lib.hid hp
        have HM := Lib.hid hm
        have HLEN := Lib.hid hlen
        clear hp hm hlen
        go_upto_region 4 with fail
        go_loopw [31] (fun v31 wr => RelPS w [.int .i64 p, .int .i64 m, .slice A mod.length c] [.int .i64 p', .int .i64 m', .slice A' mod'.length c'] 27 mod mod' v31 wr) (fun v31 _ => mod.length - (intOf v31).toNat)
        case atStart => exact ⟨0, by omega, rfl, HX.out, rfl⟩
        case round =>
          clear a0 a1 a2 d0 d1 d2 HX ep em el
          obtain ⟨k, hk, rfl, hx, htk⟩ := hrel
          have HX := Lib.hid hx
          have HTK := Lib.hid htk
          clear hx htk
          by_cases hlt : k < mod.length
          · have d2 : wr.cell? ⟨w.heap.size + 1, 2, none⟩ = some (.slice A' mod'.length c') := HX.out.cell1 rfl
            obtain ⟨b, o, rfl, hb, hc⟩ := (HA.out.keep HX.out.below).at_ hlt
            have hlt' : k < mod'.length := by have := HLEN.out; omega
            obtain ⟨b', o', rfl, hb', hc'⟩ := (HA'.out.keep HX.out.below).at_ hlt'
            have HNX := Lib.hid (take_ext HTK.out hlt hlt')
            have HNO : Hid (mod.getD k 0 ≠ mod'.getD k 0 → mod ≠ mod') := fun h e => h (by rw [e])
            generalize mod.getD k 0 = z at *
            generalize mod'.getD k 0 = z' at *
            have k0 : (0 : Int) ≤ (k : Int) := by omega
            have k1 : (k : Int) < (mod.length : Int) := by omega
            have k2 : (k : Int) < (mod'.length : Int) := by omega
            by_cases hz : z = z'
            · have hzb : (z' != z) = false := bne_eq_false_iff_eq.2 hz.symm
              have HT := Lib.hid (HNX.out hz)
              clear hz
              go_wp2_with fail
              go_roundw
              case rel => exact ⟨k + 1, by omega, by go_num, HX.out, HT.out⟩
              case measure => simp [intOf]; omega
            · have hzb : (z' != z) = true := bne_iff_ne.2 (Ne.symm hz)
              have HE : Hid (dd = false) := by show _ = _; rw [← HDD.out]; exact decide_eq_false fun h => HNO.out hz h.2.2
              clear hz
              go_wp2_with fail
              go_ret
              rw [HE.out]
              exact ⟨rfl, HX.out.below⟩
          · obtain rfl : k = mod.length := by omega
            have HE : Hid (dd = true) := by
              show _ = _
              rw [← HDD.out]
              refine decide_eq_true ⟨HP.out, HM.out, ?_⟩
              have := HTK.out
              rw [List.take_length, List.take_of_length_le (by have := HLEN.out; omega)] at this
              exact this
            go_wp2_with fail
            go_ret
            rw [HE.out]
            exact ⟨rfl, HX.out.below⟩
      · have el : ((mod.length : Int) != (mod'.length : Int)) = true := by simpa using (fun h => hlen (by omega))
        have HE : Hid (dd = false) := by show _ = _; rw [← HDD.out]; exact decide_eq_false fun h => hlen (by rw [h.2.2])
        clear hp hm hlen
        go_wp2_with fail
        go_ret
        rw [HE.out]
        exact ⟨rfl, HX.out.below⟩
    · have em : (m != m') = true := bne_iff_ne.2 hm
      have HE : Hid (dd = false) := by show _ = _; rw [← HDD.out]; exact decide_eq_false fun h => hm h.2.1
      clear hp hm
      go_wp2_with fail
      go_ret
      rw [HE.out]
      exact ⟨rfl, HX.out.below⟩
  · have ep : (p != p') = true := bne_iff_ne.2 hp
    have HE : Hid (dd = false) := by show _ = _; rw [← HDD.out]; exact decide_eq_false fun h => hp h.1
    clear hp
    go_wp2_with fail
    go_ret
    rw [HE.out]
    exact ⟨rfl, HX.out.below⟩
set_option maxHeartbeats 1000000 in
set_option maxRecDepth 100000 in
theorem dsame_c (p m p' m' : Int) (mod mod' : List Int) (A A' : Option Addr) (c c' : Nat) (N N' : Int) (zs ys : List (List Int)) (G G' : Option Addr) (g g' : Nat) (w : World) (hA : IntsAt w w.heap.size A mod) (hA' : IntsAt w w.heap.size A' mod') (hl : mod.length ≤ 9223372036854775807)
    (hG : RowsAt w w.heap.size G zs) (hG' : RowsAt w w.heap.size G' ys) (hlz : zs.length ≤ 9223372036854775807) (hr : ∀ k, k < zs.length → (zs.getD k []).length ≤ 9223372036854775807) :
    Calls Tryz.prog 32 #[.agg #[.int .i64 p, .int .i64 m, .slice A mod.length c, .int .i64 N, .slice G zs.length g], .agg #[.int .i64 p', .int .i64 m', .slice A' mod'.length c', .int .i64 N', .slice G' ys.length g']] w fun e w' => ∃ b, e = .returned (.bool b) ∧ Below w.heap.size w w' ∧ (b = true → p = p' ∧ m = m' ∧ mod = mod' ∧ N = N' ∧ zs = ys) := by
  have HX := Lib.hid (tb_new w [.int .i64 p, .int .i64 m, .slice A mod.length c, .int .i64 N, .slice G zs.length g] [.int .i64 p', .int .i64 m', .slice A' mod'.length c', .int .i64 N', .slice G' ys.length g'] 30)
  have HA := Lib.hid hA
  have HA' := Lib.hid hA'
  have HG := Lib.hid hG
  have HG' := Lib.hid hG'
  have HR := Lib.hid hr
  clear hA hA' hG hG' hr
  go_enter Tryz.func32, Tryz.ntmps32
  go_upto_region 1 with fail
  generalize (w.alloc (.cells #[.int .i64 p, .int .i64 m, .slice A mod.length c, .int .i64 N, .slice G zs.length g] 30)).alloc (.cells #[.int .i64 p', .int .i64 m', .slice A' mod'.length c', .int .i64 N', .slice G' ys.length g'] 30) = W0 at *
  have HF1 : Hid (W0.rangeAt w.heap.size 0 [.int .i64 p, .int .i64 m, .slice A mod.length c]) := HX.out.sub 0 _ (fun j hj => by rcases j with _ | _ | _ | j <;> first | rfl | (simp at hj; omega))
  have HF2 : Hid (W0.rangeAt (w.heap.size + 1) 0 [.int .i64 p', .int .i64 m', .slice A' mod'.length c']) := HX.out.sub1 0 _ (fun j hj => by rcases j with _ | _ | _ | j <;> first | rfl | (simp at hj; omega))
  have HC := Lib.hid (psame_c p m p' m' mod mod' A A' c c' W0 ((HA.out.keep HX.out.below).more HX.out.below.size) ((HA'.out.keep HX.out.below).more HX.out.below.size) hl)
  have HDD : Hid (decide (p = p' ∧ m = m' ∧ mod = mod') = true → p = p' ∧ m = m' ∧ mod = mod') := fun h => of_decide_eq_true h
  generalize decide (p = p' ∧ m = m' ∧ mod = mod') = d1 at *
  go_wp2_with (first
    | (refine wpList_load_mid rfl 27 (.tmp 5) rfl w.heap.size 0 rfl [.int .i64 p, .int .i64 m, .slice A mod.length c] _ HF1.out Tryz.underlying27 rfl fieldSize ?_)
    | (refine wpList_load_mid rfl 27 (.tmp 7) rfl (w.heap.size + 1) 0 rfl [.int .i64 p', .int .i64 m', .slice A' mod'.length c'] _ HF2.out Tryz.underlying27 rfl fieldSize ?_))
  refine HC.out.mono ?_
  rintro e w1 ⟨rfl, hb1⟩
  have HX1 := Lib.hid (HX.out.grow hb1)
  clear hb1 HC HX HF1 HF2
  have a3 : w1.cell? ⟨w.heap.size, 3, none⟩ = some (.int .i64 N) := HX1.out.cell rfl
  have a4 : w1.cell? ⟨w.heap.size, 4, none⟩ = some (.slice G zs.length g) := HX1.out.cell rfl
  have d3 : w1.cell? ⟨w.heap.size + 1, 3, none⟩ = some (.int .i64 N') := HX1.out.cell1 rfl
  have d4 : w1.cell? ⟨w.heap.size + 1, 4, none⟩ = some (.slice G' ys.length g') := HX1.out.cell1 rfl
  cases d1
  · go_wp2_with fail
    go_ret
    exact ⟨_, rfl, HX1.out.below, fun h => by cases h⟩
  · by_cases hN : N = N'
    · have eN : (N == N') = true := beq_iff_eq.2 hN
      have HC2 := Lib.hid (sequalf_c zs ys G G' g g' w1 ((HG.out.keep HX1.out.below).more HX1.out.below.size) ((HG'.out.keep HX1.out.below).more HX1.out.below.size) hlz HR.out)
      have HD2 : Hid (decide (zs = ys) = true → zs = ys) := fun h => of_decide_eq_true h
      have HN := Lib.hid hN
      clear hN
      generalize decide (zs = ys) = d2 at *
      go_wp2_with fail
      refine HC2.out.mono ?_
      rintro e w2 ⟨rfl, nq, rfl⟩
      have HB2 := Lib.hid (HX1.out.below.trans ((below_drewN (Below.refl w1.heap.size w1) nq).mono HX1.out.below.size))
      clear HC2 a3 a4 d3 d4
      go_wp2_with fail
      go_ret
      exact ⟨_, rfl, HB2.out, fun h => ⟨(HDD.out (by simp)).1, (HDD.out (by simp)).2.1, (HDD.out (by simp)).2.2, HN.out, HD2.out h⟩⟩
    · have eN : (N == N') = false := beq_false_of_ne hN
      go_wp2_with fail
      go_ret
      exact ⟨_, rfl, HX1.out.below, fun h => by cases h⟩
end Go.Proofs.YthiackegnpnmbaaGreat

namespace Go.Proofs.YthiackegnpnmbaaGreat
open Go.RowKit Pln

theorem tb_set {w : World} {cs ds : List Value} {t : TypeId} {W : World} (h : TB w cs ds t W) {b : Nat} (hb : w.heap.size + 2 ≤ b) (k : Nat) (v : Value) : TB w cs ds t (W.setCell ⟨b, k, none⟩ v) := by
  obtain ⟨h1, h2, h3, h4⟩ := h
  exact ⟨(Below.heap_setCell W ⟨b, k, none⟩ v _ (by show _ ≠ b; omega)).trans h1, (Below.heap_setCell W ⟨b, k, none⟩ v _ (by show _ ≠ b; omega)).trans h2, h3.setCell (p := ⟨b, k, none⟩) (by show w.heap.size ≤ b; omega) v, by simpa using h4⟩
/-- What a well-formed step is. -/
structure FormIs (d : StD) : Prop where
  field : fieldOK d.p d.m d.mod = true
  n1 : 1 ≤ d.n
  n2 : d.n ≤ 64
  rows : nzs (natR d.gen) = d.gen
  grid : Grid (d.p.toNat ^ d.m.toNat) (natR d.gen).length d.n.toNat (natR d.gen)
  len : d.gen.length ≤ 256
  low1 : 1 ≤ d.low
  low2 : d.low ≤ d.n + 1
theorem form_is {d : StD} (h : formZ d = 0) : FormIs d := by
  unfold formZ at h
  split at h
  · rename_i hz
    exact absurd h hz
  · rename_i hz
    have hz0 : codeZ d.p d.m d.mod d.n d.gen = 0 := Classical.byContradiction hz
    obtain ⟨h1, h2, h3⟩ := codeZ_n hz0
    have hn : 1 ≤ d.n ∧ d.n ≤ 64 := by
      unfold lengthZ at h2
      split at h2
      · cases h2
      · omega
    have hc : errC d.p d.m d.mod d.n d.gen = 0 := by
      unfold spZ at h3
      split at h3
      · rename_i he
        exact absurd h3 he
      · rename_i he
        exact Classical.byContradiction he
    unfold errC at hc
    rw [if_pos h1] at hc
    obtain ⟨g1, g2, g3, g4, g5⟩ := check_grid hc
    split at h
    · cases h
    · rename_i hl
      exact ⟨h1, hn.1, hn.2, g1, g2, g5, by omega, by omega⟩
/-- What an accepted step by the rule of divisible codes shows. -/
def DivOk (s p : StD) : Prop :=
  ∃ q m' : Nat, s.p.toNat ^ s.m.toNat = q ∧ s.at_ = [(m' : Int)] ∧ Dv.Div q m' (natR s.gen) ∧ s.p = p.p ∧ s.m = p.m ∧ s.mod = p.mod ∧ s.n = p.n ∧ s.gen = p.gen ∧ s.low ≤ (((p.low.toNat + m' - 1) / m' * m' : Nat) : Int)
def OnePost (w : World) (s p : StD) (e : Ending) (w' : World) : Prop :=
  ∃ b, e = .returned (.bool b) ∧ Below w.heap.size w w' ∧ (b = true → DivOk s p)

set_option maxHeartbeats 8000000 in
set_option maxRecDepth 100000 in
theorem one_c (s p : StD) (cs cp : List Value) (w : World) (hs : StC w w.heap.size s cs) (hp : StC w w.heap.size p cp) (ks : s.ok) (kp : p.ok) (hr : s.rule = 14) (ha : s.at_.length = 1) (fs : formZ s = 0) (fp : formZ p = 0) :
    Calls Tryz.prog 29 #[.agg cs.toArray, .agg cp.toArray] w (OnePost w s p) := by
  obtain ⟨Am, Ag, Af, Aa, Ab, Ap, Aq, Ar, As, At, cm, cg, cf, ca, cb, cp1, cq, cr, cs', ct, rfl, hcg, h1, h2, h3, h4, h5⟩ := hs
  obtain ⟨Bm, Bg, Bf, Ba, Bb, Bp, Bq, Br, Bs, Bt, dm, dg, df, da, db, dp, dq, dr, ds', dt, rfl, hdg, j1, j2, j3, j4, j5⟩ := hp
  have HS := Lib.hid (form_is fs)
  have HP := Lib.hid (form_is fp)
  have HT := Lib.hid (tb_new w (stCells s Am Ag Af Aa Ab Ap Aq Ar As At cm cg cf ca cb cp1 cq cr cs' ct) (stCells p Bm Bg Bf Ba Bb Bp Bq Br Bs Bt dm dg df da db dp dq dr ds' dt) 38)
  have HSM := Lib.hid h1
  have HSG := Lib.hid h2
  have HSA := Lib.hid h4
  have HPM := Lib.hid j1
  have HPG := Lib.hid j2
  have HKS := Lib.hid ks
  have HKP := Lib.hid kp
  have HSZ : Hid (((w.alloc (.cells (stCells s Am Ag Af Aa Ab Ap Aq Ar As At cm cg cf ca cb cp1 cq cr cs' ct).toArray 38)).alloc (.cells (stCells p Bm Bg Bf Ba Bb Bp Bq Br Bs Bt dm dg df da db dp dq dr ds' dt).toArray 38)).heap.size = w.heap.size + 2) := by show _ = _; simp
  have HAL := Lib.hid ha
  clear h1 h2 h3 h4 h5 j1 j2 j3 j4 j5 ks kp fs fp ha
  go_enter Tryz.func29, Tryz.ntmps29
  go_upto_region 1 with fail
  generalize ((w.alloc (.cells (stCells s Am Ag Af Aa Ab Ap Aq Ar As At cm cg cf ca cb cp1 cq cr cs' ct).toArray 38)).alloc (.cells (stCells p Bm Bg Bf Ba Bb Bp Bq Br Bs Bt dm dg df da db dp dq dr ds' dt).toArray 38)) = W0 at *
  have y3 : W0.cell? ⟨w.heap.size + 1, 6, none⟩ = some (.int .i64 p.low) := HT.out.cell1 rfl
  have hbz : Below W0.heap.size W0 (W0.alloc (.cells #[.int .i64 0, .int .i64 0, .slice none 0 0, .int .i64 0, .slice none 0 0] 30)) := (Below.refl _ _).alloc (Nat.le_refl _) _
  have y4 : (W0.alloc (.cells #[.int .i64 0, .int .i64 0, .slice none 0 0, .int .i64 0, .slice none 0 0] 30)).cell? ⟨w.heap.size + 1, 6, none⟩ = some (.int .i64 p.low) := (hbz.cell (p := ⟨w.heap.size + 1, 6, none⟩) (by have := HSZ.out; show w.heap.size + 1 < _; omega)).trans y3
  have HBZ := Lib.hid (heap_alloc_new W0 (.cells #[.int .i64 0, .int .i64 0, .slice none 0 0, .int .i64 0, .slice none 0 0] 30))
  have HBB := Lib.hid hbz
  clear hbz
  have hw0 := HSZ.out
  go_cut [5, 6, 7] (fun v5 v6 v7 wx => v5 = .pointer (some ⟨w.heap.size + 2, 0, none⟩) ∧ v6 = .int .i64 0 ∧ v7 = .int .i64 p.low ∧ wx = (W0.alloc (.cells #[.int .i64 0, .int .i64 0, .slice none 0 0, .int .i64 0, .slice none 0 0] 30)).drew)
  case first =>
    clear HS HP HT HSM HSG HSA HPM HPG HKS HKP HAL HBZ HBB
    go_region
    all_goals
      go_wp2_with fail
      go_meet
      exact ⟨rfl, rfl, rfl, rfl⟩
  case rest =>
    obtain ⟨rfl, rfl, rfl, hwx⟩ := hcut
    have HT1 : Hid (TB w (stCells s Am Ag Af Aa Ab Ap Aq Ar As At cm cg cf ca cb cp1 cq cr cs' ct) (stCells p Bm Bg Bf Ba Bb Bp Bq Br Bs Bt dm dg df da db dp dq dr ds' dt) 38 wc) := HT.out.grow (by rw [hwx]; exact HBB.out.drew)
    have HZ : Hid (wc.heap[w.heap.size + 2]? = some (.cells #[.int .i64 0, .int .i64 0, .slice none 0 0, .int .i64 0, .slice none 0 0] 30 (0, 0))) := by
      show _ = _
      rw [hwx, ← hw0]
      exact HBZ.out
    clear hwx y3 y4 HBZ HBB HT hw0 HSZ
    obtain ⟨a, hat⟩ : ∃ a, s.at_ = [a] := by
      have := HAL.out
      match hm : s.at_, this with
      | [a], _ => exact ⟨a, rfl⟩
    have HAT := Lib.hid hat
    have y0 : wc.cell? ⟨w.heap.size, 0, none⟩ = some (.int .i64 14) := by rw [← hr]; exact HT1.out.cell rfl
    have y8 : wc.cell? ⟨w.heap.size, 8, none⟩ = some (.slice Aa 1 ca) := by
      have := HT1.out.cell (k := 8) rfl
      rw [HAL.out] at this
      exact this
    obtain ⟨ba, oa, haa, hba, hca⟩ := (HSA.out.keep HT1.out.below).at_ (k := 0) (by rw [HAL.out]; decide)
    rw [hat] at hca
    have hca' : wc.cell? ⟨ba, oa, none⟩ = some (.int .i64 a) := hca
    have HSC : Hid (wc.rangeAt w.heap.size 1 [.int .i64 s.p, .int .i64 s.m, .slice Am s.mod.length cm, .int .i64 s.n, .slice Ag s.gen.length cg]) := HT1.out.sub 1 _ (fun j hj => by rcases j with _ | _ | _ | _ | _ | j <;> first | rfl | (simp at hj; omega))
    have HDV := Lib.hid (divisible_c s.p s.m s.mod Am cm s.n (natR s.gen) Ag cg a wc ((HSM.out.keep HT1.out.below).more HT1.out.below.size) HS.out.field (by rw [HS.out.rows]; exact (HSG.out.keep HT1.out.below).more HT1.out.below.size) HS.out.grid (by have := HS.out.n2; omega) (by rw [natR_len]; exact HS.out.len) (by rw [natR_len]; exact hcg))
    rw [natR_len] at HDV
    subst haa
    clear hca hr hat
    go_wp2_with (refine wpList_load_mid rfl 30 (.tmp 118) rfl w.heap.size 1 rfl [.int .i64 s.p, .int .i64 s.m, .slice Am s.mod.length cm, .int .i64 s.n, .slice Ag s.gen.length cg] _ HSC.out Tryz.underlying30 rfl codeSize ?_)
    refine HDV.out.mono ?_
    rintro e w2 ⟨b, rfl, hb2, hdv⟩
    have HT2 := Lib.hid (HT1.out.grow hb2)
    have HDT := Lib.hid hdv
    have HZ2 : Hid (w2.heap[w.heap.size + 2]? = some (.cells #[.int .i64 0, .int .i64 0, .slice none 0 0, .int .i64 0, .slice none 0 0] 30 (0, 0))) := (hb2.block _ (Array.getElem?_eq_some_iff.1 HZ.out).1).trans HZ.out
    clear hb2 hdv HDV HSC y0 y8 hca' HT1 HZ
    cases b
    · go_wp2_with fail
      go_ret
      exact ⟨_, rfl, HT2.out.below, fun h => by cases h⟩
    · obtain ⟨q, m', hq, hmm, hdiv⟩ := HDT.out (by simp)
      have HDIV := Lib.hid hdiv
      have HQ := Lib.hid hq
      have hm4 : 2 ≤ m' ∧ m' ≤ 4 := by have := hdiv.1; omega
      subst hmm
      obtain ⟨L, hL⟩ : ∃ L : Nat, p.low = L := ⟨p.low.toNat, by have := HP.out.low1; omega⟩
      have hL2 : L ≤ 65 := by have := HP.out.low2; have := HP.out.n2; omega
      have HLL := Lib.hid hL
      have y6 : w2.cell? ⟨w.heap.size + 1, 6, none⟩ = some (.int .i64 L) := by rw [← hL]; exact HT2.out.cell1 rfl
      have e1 : IntKind.i64.wrap ((L : Int) + (m' : Int)) = (L : Int) + (m' : Int) := IntWalk.i64_in _ (by omega)
      have e2 : IntKind.i64.wrap ((L : Int) + (m' : Int) - 1) = (L : Int) + (m' : Int) - 1 := IntWalk.i64_in _ (by omega)
      have e3 : Int.tdiv ((L : Int) + (m' : Int) - 1) (m' : Int) = (((L + m' - 1) / m' : Nat) : Int) := by
        rw [show (L : Int) + (m' : Int) - 1 = ((L + m' - 1 : Nat) : Int) by omega]
        rfl
      have hd1 : (L + m' - 1) / m' ≤ 100 := Nat.le_trans (Nat.div_le_self _ _) (by omega)
      have HDQ : Hid ((L + m' - 1) / m' * m' ≤ 400) := Nat.le_trans (Nat.mul_le_mul hd1 hm4.2) (by decide)
      generalize hdd : (L + m' - 1) / m' = dd at *
      have HDD := Lib.hid hdd
      have hdl := HDQ.out
      have e4 : IntKind.i64.wrap (dd : Int) = (dd : Int) := IntWalk.i64_in _ (by omega)
      have e5 : IntKind.i64.wrap ((dd : Int) * (m' : Int)) = ((dd * m' : Nat) : Int) := by
        rw [← Int.natCast_mul]
        exact IntWalk.i64_in _ (by omega)
      have n1 : ¬ (m' : Int) = 0 := by omega
      have n2 : ¬ m' = 0 := by omega
      have n3 : ((m' : Int) == 0) = false := beq_false_of_ne n1
      have p1 : w2.cell? ⟨w.heap.size + 1, 1, none⟩ = some (.int .i64 p.p) := HT2.out.cell1 rfl
      have p2 : w2.cell? ⟨w.heap.size + 1, 2, none⟩ = some (.int .i64 p.m) := HT2.out.cell1 rfl
      have p3 : w2.cell? ⟨w.heap.size + 1, 3, none⟩ = some (.slice Bm p.mod.length dm) := HT2.out.cell1 rfl
      have p4 : w2.cell? ⟨w.heap.size + 1, 4, none⟩ = some (.int .i64 p.n) := HT2.out.cell1 rfl
      have p5 : w2.cell? ⟨w.heap.size + 1, 5, none⟩ = some (.slice Bg p.gen.length dg) := HT2.out.cell1 rfl
      have z0 : w2.cell? ⟨w.heap.size + 2, 0, none⟩ = some (.int .i64 0) := cell_of_row _ _ 0 _ _ _ HZ2.out
      have z1 : w2.cell? ⟨w.heap.size + 2, 1, none⟩ = some (.int .i64 0) := cell_of_row _ _ 1 _ _ _ HZ2.out
      have z2 : w2.cell? ⟨w.heap.size + 2, 2, none⟩ = some (.slice none 0 0) := cell_of_row _ _ 2 _ _ _ HZ2.out
      have z3 : w2.cell? ⟨w.heap.size + 2, 3, none⟩ = some (.int .i64 0) := cell_of_row _ _ 3 _ _ _ HZ2.out
      have z4 : w2.cell? ⟨w.heap.size + 2, 4, none⟩ = some (.slice none 0 0) := cell_of_row _ _ 4 _ _ _ HZ2.out
      have f0 : w2.frozen? ⟨w.heap.size + 2, 0, none⟩ = false := by simp [World.frozen?, HZ2.out]
      have f1 : w2.frozen? ⟨w.heap.size + 2, 1, none⟩ = false := by simp [World.frozen?, HZ2.out]
      have f2 : w2.frozen? ⟨w.heap.size + 2, 2, none⟩ = false := by simp [World.frozen?, HZ2.out]
      have f3 : w2.frozen? ⟨w.heap.size + 2, 3, none⟩ = false := by simp [World.frozen?, HZ2.out]
      have f4 : w2.frozen? ⟨w.heap.size + 2, 4, none⟩ = false := by simp [World.frozen?, HZ2.out]
      clear hdiv hq hd1 hdl hdd hL
      go_upto_region 23 with fail
      have HW3 : Hid (TB w (stCells s Am Ag Af (some ⟨ba, oa, none⟩) Ab Ap Aq Ar As At cm cg cf ca cb cp1 cq cr cs' ct) (stCells p Bm Bg Bf Ba Bb Bp Bq Br Bs Bt dm dg df da db dp dq dr ds' dt) 38 ((((((w2.setCell ⟨w.heap.size + 2, 0, none⟩ (.int .i64 p.p)).setCell ⟨w.heap.size + 2, 1, none⟩ (.int .i64 p.m)).setCell ⟨w.heap.size + 2, 2, none⟩ (.slice Bm p.mod.length dm)).setCell ⟨w.heap.size + 2, 3, none⟩ (.int .i64 p.n)).setCell ⟨w.heap.size + 2, 4, none⟩ (.slice Bg p.gen.length dg)).drew) ∧ ((((((w2.setCell ⟨w.heap.size + 2, 0, none⟩ (.int .i64 p.p)).setCell ⟨w.heap.size + 2, 1, none⟩ (.int .i64 p.m)).setCell ⟨w.heap.size + 2, 2, none⟩ (.slice Bm p.mod.length dm)).setCell ⟨w.heap.size + 2, 3, none⟩ (.int .i64 p.n)).setCell ⟨w.heap.size + 2, 4, none⟩ (.slice Bg p.gen.length dg)).drew).heap[w.heap.size + 2]? = some (.cells #[.int .i64 p.p, .int .i64 p.m, .slice Bm p.mod.length dm, .int .i64 p.n, .slice Bg p.gen.length dg] 30 (0, 0))) :=
        ⟨(tb_set (tb_set (tb_set (tb_set (tb_set HT2.out (Nat.le_refl _) 0 (.int .i64 p.p)) (Nat.le_refl _) 1 (.int .i64 p.m)) (Nat.le_refl _) 2 (.slice Bm p.mod.length dm)) (Nat.le_refl _) 3 (.int .i64 p.n)) (Nat.le_refl _) 4 (.slice Bg p.gen.length dg)).grow (Below.refl _ _).drew, (heap_set_same (heap_set_same (heap_set_same (heap_set_same (heap_set_same (show w2.heap[w.heap.size + 2]? = some (.cells ([.int .i64 0, .int .i64 0, .slice none 0 0, .int .i64 0, .slice none 0 0] : List Value).toArray 30 (0, 0)) from HZ2.out) 0 (.int .i64 p.p)) 1 (.int .i64 p.m)) 2 (.slice Bm p.mod.length dm)) 3 (.int .i64 p.n)) 4 (.slice Bg p.gen.length dg))⟩
      go_region
      obtain ⟨W3, hW3⟩ : ∃ W3, W3 = (((((w2.setCell ⟨w.heap.size + 2, 0, none⟩ (.int .i64 p.p)).setCell ⟨w.heap.size + 2, 1, none⟩ (.int .i64 p.m)).setCell ⟨w.heap.size + 2, 2, none⟩ (.slice Bm p.mod.length dm)).setCell ⟨w.heap.size + 2, 3, none⟩ (.int .i64 p.n)).setCell ⟨w.heap.size + 2, 4, none⟩ (.slice Bg p.gen.length dg)).drew := ⟨_, rfl⟩
      rw [← hW3] at HW3 ⊢
      clear hW3 y6 e1 e2 e3 e4 e5 n1 n2 n3 p1 p2 p3 p4 p5 z0 z1 z2 z3 z4 f0 f1 f2 f3 f4 HT2 HZ2
      have s0 : W3.cell? ⟨w.heap.size, 1, none⟩ = some (.int .i64 s.p) := HW3.out.1.cell rfl
      have s1 : W3.cell? ⟨w.heap.size, 2, none⟩ = some (.int .i64 s.m) := HW3.out.1.cell rfl
      have s2 : W3.cell? ⟨w.heap.size, 3, none⟩ = some (.slice Am s.mod.length cm) := HW3.out.1.cell rfl
      have s3 : W3.cell? ⟨w.heap.size, 4, none⟩ = some (.int .i64 s.n) := HW3.out.1.cell rfl
      have s4 : W3.cell? ⟨w.heap.size, 5, none⟩ = some (.slice Ag s.gen.length cg) := HW3.out.1.cell rfl
      have c0 : W3.cell? ⟨w.heap.size + 2, 0, none⟩ = some (.int .i64 p.p) := cell_of_row _ _ 0 _ _ _ HW3.out.2
      have c1 : W3.cell? ⟨w.heap.size + 2, 1, none⟩ = some (.int .i64 p.m) := cell_of_row _ _ 1 _ _ _ HW3.out.2
      have c2 : W3.cell? ⟨w.heap.size + 2, 2, none⟩ = some (.slice Bm p.mod.length dm) := cell_of_row _ _ 2 _ _ _ HW3.out.2
      have c3 : W3.cell? ⟨w.heap.size + 2, 3, none⟩ = some (.int .i64 p.n) := cell_of_row _ _ 3 _ _ _ HW3.out.2
      have c4 : W3.cell? ⟨w.heap.size + 2, 4, none⟩ = some (.slice Bg p.gen.length dg) := cell_of_row _ _ 4 _ _ _ HW3.out.2
      have HRS : Hid (∀ k, k < s.gen.length → (s.gen.getD k []).length ≤ 9223372036854775807) := fun k hk => by
        have h1 := HS.out.grid.2
        have h2 : (nzs (natR s.gen)).getD k [] = nz ((natR s.gen).getD k []) := nzs_getD _ _
        rw [HS.out.rows] at h2
        rw [h2, nz_len]
        have hk2 : k < (natR s.gen).length := by rw [natR_len]; exact hk
        have h3 : (natR s.gen).getD k [] = (natR s.gen)[k] := by simp [List.getD, hk2]
        rw [h3, (h1 _ (List.getElem_mem hk2)).1]
        have := HS.out.n2
        omega
      have HSE := Lib.hid (dsame_c s.p s.m p.p p.m s.mod p.mod Am Bm cm dm s.n p.n s.gen p.gen Ag Bg cg dg W3 ((HSM.out.keep HW3.out.1.below).more HW3.out.1.below.size) ((HPM.out.keep HW3.out.1.below).more HW3.out.1.below.size) HKS.out.1 ((HSG.out.keep HW3.out.1.below).more HW3.out.1.below.size) ((HPG.out.keep HW3.out.1.below).more HW3.out.1.below.size) HKS.out.2.1 HRS.out)
      clear HRS
      go_wp2_with fail
      refine HSE.out.mono ?_
      rintro e w4 ⟨b2, rfl, hb4, hse⟩
      have HT4 := Lib.hid (HW3.out.1.grow hb4)
      have HSS := Lib.hid hse
      have y7 : w4.cell? ⟨w.heap.size, 6, none⟩ = some (.int .i64 s.low) := HT4.out.cell rfl
      clear hb4 hse HSE HW3 s0 s1 s2 s3 s4 c0 c1 c2 c3 c4
      cases b2
      · go_wp2_with fail
        go_ret
        exact ⟨_, rfl, HT4.out.below, fun h => by cases h⟩
      · by_cases hle : s.low ≤ (dd : Int) * (m' : Int)
        · obtain ⟨g1, g2, g3, g4, g5⟩ := HSS.out (by simp)
          have HOK : Hid (DivOk s p) := ⟨q, m', HQ.out, HAT.out, HDIV.out, g1, g2, g3, g4, g5, by
            rw [HLL.out, Int.toNat_natCast, HDD.out, Int.natCast_mul]
            exact hle⟩
          clear g1 g2 g3 g4 g5
          go_wp2_with fail
          go_ret
          exact ⟨_, rfl, HT4.out.below, fun _ => HOK.out⟩
        · go_wp2_with fail
          go_ret
          exact ⟨_, rfl, HT4.out.below, fun h => absurd (of_decide_eq_true h) (by omega)⟩
end Go.Proofs.YthiackegnpnmbaaGreat

namespace Go.Proofs.YthiackegnpnmbaaGreat
open Go.RowKit Pln

theorem premises_1 (w : World) : Calls Tryz.prog 15 #[.int .i64 1] w fun e w' => e = .returned (.int .i64 0) ∧ w = w' := by
  go_enter Tryz.func15, Tryz.ntmps15
  go_wp2_with fail
  go_ret
  exact ⟨rfl, rfl⟩
theorem premises_14 (w : World) : Calls Tryz.prog 15 #[.int .i64 14] w fun e w' => e = .returned (.int .i64 1) ∧ w = w' := by
  go_enter Tryz.func15, Tryz.ntmps15
  go_wp2_with fail
  go_ret
  exact ⟨rfl, rfl⟩
theorem premises_15 (w : World) : Calls Tryz.prog 15 #[.int .i64 15] w fun e w' => e = .returned (.int .i64 0) ∧ w = w' := by
  go_enter Tryz.func15, Tryz.ntmps15
  go_wp2_with fail
  go_ret
  exact ⟨rfl, rfl⟩

def LSf (w : World) (cs cp : List Value) (g : Nat) (W : World) : Prop := SB w w.heap.size cs W ∧ W.rangeAt g 0 cp ∧ Below w.heap.size w W

set_option maxHeartbeats 4000000 in
set_option maxRecDepth 100000 in
theorem follows_d (s p : StD) (cs cp : List Value) (g c : Nat) (w : World) (hs : StC w w.heap.size s cs) (hp : StC w w.heap.size p cp) (hg : w.rangeAt g 0 cp) (hgl : g < w.heap.size) (ks : s.ok) (kp : p.ok) (hr : s.rule = 14) (ha : s.at_.length = 1) (fs : formZ s = 0) (fp : formZ p = 0) :
    Calls Tryz.prog 16 #[.agg cs.toArray, .slice (some ⟨g, 0, none⟩) 1 c] w (OnePost w s p) := by
  have hs0 := hs
  have hp0 := hp
  obtain ⟨Am, Ag, Af, Aa, Ab, Ap, Aq, Ar, As, At, cm, cg, cf, ca, cb, cp1, cq, cr, cs', ct, rfl, _⟩ := hs
  obtain ⟨Bm, Bg, Bf, Ba, Bb, Bp, Bq, Br, Bs, Bt, dm, dg, df, da, db, dp, dq, dr, ds', dt, rfl, _⟩ := hp
  have HX := Lib.hid (sb_new w (stCells s Am Ag Af Aa Ab Ap Aq Ar As At cm cg cf ca cb cp1 cq cr cs' ct))
  have HO : Hid (∀ W, Below w.heap.size w W → Calls Tryz.prog 29 #[.agg (stCells s Am Ag Af Aa Ab Ap Aq Ar As At cm cg cf ca cb cp1 cq cr cs' ct).toArray, .agg (stCells p Bm Bg Bf Ba Bb Bp Bq Br Bs Bt dm dg df da db dp dq dr ds' dt).toArray] W (OnePost W s p)) := fun W hW =>
    one_c s p _ _ W (hs0.lift hW) (hp0.lift hW) ks kp hr ha fs fp
  have HG := Lib.hid hg
  have hgl2 := hgl
  clear hs0 hp0 hg ks kp hr ha fs fp
  go_enter Tryz.func16, Tryz.ntmps16
  go_upto_region 1 with fail
  generalize w.alloc (.cells (stCells s Am Ag Af Aa Ab Ap Aq Ar As At cm cg cf ca cb cp1 cq cr cs' ct).toArray 38) = W0 at *
  have HS0 : Hid (LSf w (stCells s Am Ag Af Aa Ab Ap Aq Ar As At cm cg cf ca cb cp1 cq cr cs' ct) (stCells p Bm Bg Bf Ba Bb Bp Bq Br Bs Bt dm dg df da db dp dq dr ds' dt) g W0.drew) := ⟨HX.out.grow (Below.refl _ _).drew, range_keep_v HG.out (HX.out.2.1.block g hgl2), HX.out.2.1.drew⟩
  clear HX HG
  go_upto_region 5 with fail
  refine wp_region_mixf 5 5 (LSf w (stCells s Am Ag Af Aa Ab Ap Aq Ar As At cm cg cf ca cb cp1 cq cr cs' ct) (stCells p Bm Bg Bf Ba Bb Bp Bq Br Bs Bt dm dg df da db dp dq dr ds' dt) g) [(0, 0), (1, 1), (1, 2), (0, 3), (2, 4)] default (by kernel_rfl) (by kernel_rfl) (fun _ _ d _ _ h => by cases d <;> exact h) HS0.out ?_
  generalize W0.drew = Wd at *
  simp only [List.map_cons, List.map_nil, List.getD_cons_zero, List.getD_cons_succ]
  refine mixf_load_mid rfl 38 (.tmp 2) rfl w.heap.size 0 rfl (stCells s Am Ag Af Aa Ab Ap Aq Ar As At cm cg cf ca cb cp1 cq cr cs' ct) _ (fun W hW => hW.1.range) Tryz.underlying38 rfl stepSize ?_
  go_simp
  apply mixf_free rfl
  · intro W
    go_simp
    rfl
  go_simp
  apply mixf_free rfl
  · intro W
    go_simp
    rfl
  go_simp
  refine mixf_load_mid rfl 38 (.tmp 17) rfl g 0 rfl (stCells p Bm Bg Bf Ba Bb Bp Bq Br Bs Bt dm dg df da db dp dq dr ds' dt) _ (fun W hW => hW.2.1) Tryz.underlying38 rfl stepSize ?_
  go_simp
  apply mixf_call rfl
  · go_simp
    exact ⟨rfl, rfl⟩
  refine (HO.out Wd HS0.out.2.2).mono ?_
  rintro e w2 ⟨b, rfl, hb2, hd⟩
  have HB : Hid (Below w.heap.size w w2) := HS0.out.2.2.trans (hb2.mono HS0.out.2.2.size)
  have hgd : g < Wd.heap.size := Nat.lt_of_lt_of_le hgl2 HS0.out.2.2.size
  have HD := Lib.hid hd
  refine ⟨_, rfl, ⟨HS0.out.1.grow hb2, range_keep_v HS0.out.2.1 (hb2.block g hgd), HB.out⟩, ?_⟩
  go_simp
  refine mixf_nil ?_
  show wpList _ _ _ _ _ _
  go_simp
  clear hb2 hd HS0 HO
  go_wp2_with fail
  go_ret
  exact ⟨_, rfl, HB.out, HD.out⟩
end Go.Proofs.YthiackegnpnmbaaGreat

