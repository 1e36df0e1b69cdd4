/-
  The reference: At. enumerate.weight; number.Exp and code.Size at the code of 000 and 111.
-/
import Derived.Test.YthiackegnpnmbaaGreatQ37
import Derived.Test.YthiackegnpnmbaaGreatQ27
namespace Go.Proofs.YthiackegnpnmbaaGreat
open Go.RowKit Pln

/-- A code of the reference in memory. -/
structure RCode (p m : Nat) (md : List Nat) (A : Option Addr) (n cols : Nat) (rows : List (List Nat)) (Ah : Option Addr) (w : World) : Prop where
  fld : RFld p m md A n w.heap.size w
  ft : ∃ l, FT p m md l
  at_ : RowsAt w w.heap.size Ah (nzs rows)
  grid : Grid (p ^ m) rows.length cols rows
  n1 : 1 ≤ cols
  n2 : cols ≤ 64
  len : rows.length ≤ 256
def cwO (p m : Nat) (md : List Nat) (cols : Nat) (rows : List (List Nat)) (msg : List Nat) : List Nat := Dv.combO (refOps p m md) (List.replicate cols 0) msg rows
section
variable {p m : Nat} {md : List Nat} {A : Option Addr} {n cols : Nat} {rows : List (List Nat)} {Ah : Option Addr} {w W : World}
theorem RCode.lift (h : RCode p m md A n cols rows Ah w) (hb : Below w.heap.size w W) : RCode p m md A n cols rows Ah W :=
  ⟨(h.fld.keep hb).more hb.size, h.ft, (h.at_.keep hb).more hb.size, h.grid, h.n1, h.n2, h.len⟩
theorem RCode.q2 (h : RCode p m md A n cols rows Ah w) : 2 ≤ p ^ m ∧ p ^ m ≤ 256 :=
  ⟨Nat.le_trans h.fld.small.p1 (Nat.le_self_pow (by have := h.fld.small.m1; omega) _), h.fld.small.q⟩
theorem RCode.order (h : RCode p m md A n cols rows Ah w) (c : Nat) (W : World) : Calls Tryz.prog 33 #[.agg #[.int .i64 p, .int .i64 m, .slice A n c]] W fun e w' => e = .returned (.int .i64 ((p ^ m : Nat) : Int)) ∧ Below W.heap.size W w' := by
  have hq := h.fld.small.q
  have ho := orderM_nat h.fld.small.p1 h.fld.small.p2 h.fld.small.m1 h.fld.small.m2
  rw [if_neg (by omega)] at ho
  rw [← ho]
  exact rorder_c p m A n c W
theorem RCode.comb (h : RCode p m md A n cols rows Ah w) (msg : List Nat) (Am : Option Addr) (c cm ch : Nat) (hM : IntsAt w w.heap.size Am (nz msg)) (hmq : ∀ x ∈ msg, x < p ^ m) (hl : msg.length = rows.length) :
    Calls Tryz.prog 20 #[.agg #[.int .i64 p, .int .i64 m, .slice A n c], .slice Am rows.length cm, .slice Ah rows.length ch, .int .i64 cols] w fun e w' => (∃ g, e = .returned (.slice (some ⟨g, 0, none⟩) cols cols) ∧ Row w' w.heap.size g cols (nz (cwO p m md cols rows msg)) ∧ (cwO p m md cols rows msg).length = cols ∧ ∀ x ∈ cwO p m md cols rows msg, x < p ^ m) ∧ Below w.heap.size w w' := by
  have hc := h.n2
  have := rcombine_c p m md A n c msg rows Am cm Ah ch cols w h.fld h.ft hM hmq h.at_ h.grid hl (by omega) h.len
  rw [hl] at this
  exact this
end
section
variable {w : World} {cs : List Value} {t : TypeId} {W : World}
theorem BX.wrote (h : BX w cs t W) {g k : Nat} (hg : w.heap.size < g) (u : Value) : BX w cs t (W.setCell ⟨g, k, none⟩ u) :=
  ⟨(Below.heap_setCell W ⟨g, k, none⟩ u w.heap.size (by show w.heap.size ≠ g; omega)).trans h.1, h.2.1.setCell (p := ⟨g, k, none⟩) (Nat.le_of_lt hg) u, by simpa using h.2.2⟩
theorem BX.field {a b c : Value} {l : List Value} (h : BX w (a :: b :: c :: l) t W) : W.rangeAt w.heap.size 0 [a, b, c] := fun j u hu => by
  match j, hu with
  | 0, hu => exact h.range 0 u hu
  | 1, hu => exact h.range 1 u hu
  | 2, hu => exact h.range 2 u hu
  | j + 3, hu => simp at hu
end
theorem i64_nat {x : Nat} (h : x ≤ 65536) : IntKind.i64.wrap (x : Int) = (x : Int) := IntWalk.i64_in _ (by omega)
def RelAtt (w : World) (cs : List Value) (g k q i0 : Nat) (v1 v7 : Value) (wr : World) : Prop :=
  ∃ (j n' : Nat) (t : List Nat), v1 = .int .i64 n' ∧ v7 = .int .i64 ((j : Int) - 1) ∧ n' ≤ i0 ∧ t.length + j = k ∧ Dv.digsBE q j n' ++ t = Dv.digsBE q k i0 ∧ BX w cs 30 wr ∧ Row wr (w.heap.size + 1) g k (nz (List.replicate j 0 ++ t))
theorem rep_set (j x : Nat) (t : List Nat) : (List.replicate (j + 1) 0 ++ t).set j x = List.replicate j 0 ++ (x :: t) := by
  rw [List.replicate_succ', List.append_assoc, List.set_append]
  simp
set_option maxHeartbeats 1000000 in
set_option maxRecDepth 100000 in
theorem at_c {p m : Nat} {md : List Nat} {A : Option Addr} {n cols : Nat} {rows : List (List Nat)} {Ah : Option Addr} {w : World} (h : RCode p m md A n cols rows Ah w) (c ch i : Nat) (hi : i ≤ 65536) :
    Calls Tryz.prog 42 #[.agg #[.int .i64 p, .int .i64 m, .slice A n c, .int .i64 cols, .slice Ah rows.length ch], .int .i64 i] w fun e w' => (∃ g, e = .returned (.slice (some ⟨g, 0, none⟩) cols cols) ∧ Row w' w.heap.size g cols (nz (cwO p m md cols rows (Dv.digsBE (p ^ m) rows.length i))) ∧ (cwO p m md cols rows (Dv.digsBE (p ^ m) rows.length i)).length = cols) ∧ Below w.heap.size w w' := by
  have HX := Lib.hid (bx_new w [.int .i64 (p : Int), .int .i64 (m : Int), .slice A n c, .int .i64 (cols : Int), .slice Ah rows.length ch] 30)
  have HO : Hid (∀ W, Calls Tryz.prog 33 #[.agg #[.int .i64 p, .int .i64 m, .slice A n c]] W fun e w' => e = .returned (.int .i64 ((p ^ m : Nat) : Int)) ∧ Below W.heap.size W w') := fun W => h.order c W
  have hlen := h.len
  obtain ⟨q2, q3⟩ := h.q2
  have HC : Hid (∀ (msg : List Nat) (g : Nat) (W : World), Below w.heap.size w W → Row W (w.heap.size + 1) g rows.length (nz msg) → (∀ x ∈ msg, x < p ^ m) → msg.length = rows.length → Calls Tryz.prog 20 #[.agg #[.int .i64 p, .int .i64 m, .slice A n c], .slice (some ⟨g, 0, none⟩) rows.length rows.length, .slice Ah rows.length ch, .int .i64 cols] W fun e w' => (∃ g, e = .returned (.slice (some ⟨g, 0, none⟩) cols cols) ∧ Row w' W.heap.size g cols (nz (cwO p m md cols rows msg)) ∧ (cwO p m md cols rows msg).length = cols ∧ ∀ x ∈ cwO p m md cols rows msg, x < p ^ m) ∧ Below W.heap.size W w') := fun msg g W hW hr hm hl =>
    (h.lift hW).comb msg _ c _ ch (row_ints hr) hm hl
  obtain ⟨i0, hi0, hz0, hz1, hz2⟩ := info_parts infoInt
  have HI := Lib.hid hi0
  have HZ0 := Lib.hid hz0
  have HZ1 := Lib.hid hz1
  have HB2 := Lib.hid (show i0.bytes * rows.length ≤ 281474976710656 by rw [hz2]; omega)
  have HB3 := Lib.hid (show rows.length ≤ maxLen by unfold maxLen; omega)
  clear h hi0 hz0 hz1 hz2
  generalize cwO p m md cols rows = cw at *
  generalize p ^ m = q at *
  generalize rows.length = k at *
  have hqz : ((q : Int) == 0) = false := beq_false_of_ne (by omega)
  have hqz1 : ¬ (q : Int) = 0 := by omega
  have hqz2 : ¬ q = 0 := by omega
  go_enter Tryz.func42, Tryz.ntmps42
  go_upto_region 1 with fail
  have hsz0 : w.heap.size + 1 ≤ (w.alloc (.cells #[.int .i64 (p : Int), .int .i64 (m : Int), .slice A n c, .int .i64 (cols : Int), .slice Ah k ch] 30)).heap.size := by simp
  generalize w.alloc (.cells #[.int .i64 (p : Int), .int .i64 (m : Int), .slice A n c, .int .i64 (cols : Int), .slice Ah k ch] 30) = W0 at *
  have HRG := Lib.hid HX.out.field
  have HO0 := Lib.hid (HO.out W0)
  go_wp2_with (refine wpList_load_mid rfl 27 (.tmp 8) rfl w.heap.size 0 rfl [.int .i64 (p : Int), .int .i64 (m : Int), .slice A n c] _ HRG.out Tryz.underlying27 rfl fieldSize ?_)
  refine HO0.out.mono ?_
  rintro e w1 ⟨rfl, hb1⟩
  have HX1 := Lib.hid (HX.out.grow hb1)
  have hsz1 : w.heap.size + 1 ≤ w1.heap.size := Nat.le_trans hsz0 hb1.size
  have c4 : w1.cell? ⟨w.heap.size, 4, none⟩ = some (.slice Ah k ch) := HX1.out.cell rfl
  clear hb1 HX HRG HO0 HO
  clear hsz0
  clear W0
  go_wp2_with (refine wpList_make_full w1 rfl (.tmp 13) (.tmp 13) 23 rfl (w.heap.size + 1) 3 i0 (.int .i64 0) 1 Tryz.underlying23 HI.out HZ0.out HZ1.out .i64 .i64 k k k rfl rfl rfl rfl HB2.out HB3.out hsz1 ?_; intro w2 hown hgr)
  have hb1 := below_of_grown hgr
  have hr1 := Row.of_make hown
  have hwk : IntKind.i64.wrap ((k : Int) - 1) = (k : Int) - 1 := IntWalk.i64_in _ (by omega)
  have HS0 : Hid (RelAtt w [.int .i64 (p : Int), .int .i64 (m : Int), .slice A n c, .int .i64 (cols : Int), .slice Ah k ch] w1.heap.size k q i (.int .i64 (i : Int)) (.int .i64 ((k : Int) - 1)) w2) := ⟨k, i, [], rfl, rfl, Nat.le_refl _, by simp, by simp, HX1.out.grow hb1, by rw [List.append_nil]; exact hr1⟩
  clear hown hgr hb1 hr1 HX1 HI HZ0 HZ1 HB2 HB3 c4
  have HGG : Hid (w.heap.size < w1.heap.size) := hsz1
  clear hsz1
  generalize w1.heap.size = go at *
  go_wp2_with fail
  go_loopw [1, 7] (fun v1 v7 wr => RelAtt w [.int .i64 (p : Int), .int .i64 (m : Int), .slice A n c, .int .i64 (cols : Int), .slice Ah k ch] go k q i v1 v7 wr) (fun _ v7 _ => (intOf v7 + 1).toNat)
  case atStart => exact HS0.out
  case round =>
    obtain ⟨j, n', t, rfl, rfl, hn', htl, hdg, hx, hrow⟩ := hrel
    have HX := Lib.hid hx
    have HR := Lib.hid hrow
    have HD := Lib.hid hdg
    clear hx hrow hdg HS0
    cases j with
    | succ j =>
      have ej : ((j + 1 : Nat) : Int) - 1 = (j : Int) := by omega
      rw [ej]
      have hmod : Int.tmod (n' : Int) (q : Int) = ((n' % q : Nat) : Int) := tmod_nat n' q
      have hdiv : Int.tdiv (n' : Int) (q : Int) = ((n' / q : Nat) : Int) := rfl
      have hdl : n' / q ≤ n' := Nat.div_le_self _ _
      have j0 : (0 : Int) ≤ (j : Int) := by omega
      have j1 : (j : Int) < (k : Int) := by omega
      have hw1 : IntKind.i64.wrap ((j : Int) - 1) = (j : Int) - 1 := IntWalk.i64_in _ (by omega)
      have hdb : n' / q ≤ 65536 := by omega
      have hw2 : IntKind.i64.wrap ((n' / q : Nat) : Int) = ((n' / q : Nat) : Int) := i64_nat hdb
      have HR2 := Lib.hid (HR.out.set j ((n' % q : Nat) : Int))
      rw [nz_set, rep_set] at HR2
      have f0 := HR.out.frozen j
      have c0 := HR.out.cell (j := j) (by rw [nz_len]; simp; omega)
      have HX2 := Lib.hid (HX.out.wrote (k := j) HGG.out (.int .i64 ((n' % q : Nat) : Int)))
      have HD2 : Hid (Dv.digsBE q j (n' / q) ++ (n' % q :: t) = Dv.digsBE q k i) := by
        have h1 : (Dv.digsBE q j (n' / q) ++ [n' % q]) ++ t = Dv.digsBE q k i := HD.out
        rw [List.append_assoc] at h1
        exact h1
      generalize n' / q = n2 at *
      generalize n' % q = r at *
      go_wp2_with fail
      go_roundw
      case rel => exact ⟨j, n2, r :: t, rfl, by go_num, by omega, by simp; omega, HD2.out, HX2.out, HR2.out⟩
      case measure => first | (simp [intOf]; done) | (simp [intOf]; omega)
    | zero =>
      have ej : ((0 : Nat) : Int) - 1 = -1 := rfl
      rw [ej]
      have hbl := HX.out.below
      have HDM := Lib.hid (Dv.digsBE_lt (q := q) (by omega) k i)
      have HDL := Lib.hid (Dv.digsBE_len q k i)
      have HDE : Hid (t = Dv.digsBE q k i) := HD.out
      have HR0 := Lib.hid HR.out
      rw [show List.replicate 0 0 ++ t = t from rfl, HDE.out] at HR0
      have HCC := Lib.hid (HC.out _ go wr hbl HR0.out HDM.out HDL.out)
      have HRG := Lib.hid HX.out.field
      have c3 : wr.cell? ⟨w.heap.size, 3, none⟩ = some (.int .i64 (cols : Int)) := HX.out.cell rfl
      have c4 : wr.cell? ⟨w.heap.size, 4, none⟩ = some (.slice Ah k ch) := HX.out.cell rfl
      clear HC HR HR0 HD HDE hbl
      generalize hdgq : Dv.digsBE q k i = dg at HCC
      have HDG := Lib.hid hdgq
      clear hdgq
      go_wp2_with (refine wpList_load_mid rfl 27 (.tmp 31) rfl w.heap.size 0 rfl [.int .i64 (p : Int), .int .i64 (m : Int), .slice A n c] _ HRG.out Tryz.underlying27 rfl fieldSize ?_)
      refine HCC.out.mono ?_
      rintro e w3 ⟨⟨g3, rfl, hr3, hl3, _⟩, hb3⟩
      have HB3 := Lib.hid (HX.out.below.trans (hb3.mono HX.out.below.size))
      have HRR := Lib.hid (hr3.base (Nat.le_trans HX.out.below.size hr3.lt.1))
      have HL3 := Lib.hid hl3
      clear hb3 hr3 hl3 HCC
      go_wp2_with fail
      go_ret
      rw [HDG.out]
      exact ⟨⟨g3, rfl, HRR.out, HL3.out⟩, HB3.out⟩
end Go.Proofs.YthiackegnpnmbaaGreat

namespace Go.Proofs.YthiackegnpnmbaaGreat
open Go.RowKit Pln

set_option maxHeartbeats 1000000 in
set_option maxRecDepth 100000 in
theorem eweight_c (v : List Nat) (A : Option Addr) (c : Nat) (w : World) (hA : IntsAt w w.heap.size A (nz v)) (hl : v.length ≤ 1000) :
    Calls Tryz.prog 117 #[.slice A v.length c] w fun e w' => e = .returned (.int .i64 ((Dv.wt v : Nat) : Int)) ∧ w = w' := by
  have HA := Lib.hid hA
  clear hA
  go_enter Tryz.func117, Tryz.ntmps117
  go_wp2_with fail
  go_loopw [3, 8] (fun v3 v8 wr => RelWg v w v3 v8 wr) (fun _ v8 _ => v.length - (intOf v8).toNat)
  case atStart => exact ⟨0, by omega, rfl, rfl, rfl⟩
  case round =>
    obtain ⟨k, hk, rfl, rfl, rfl⟩ := hrel
    have hwl : Dv.wt (v.take k) ≤ 1000 := Nat.le_trans (rwt_le _) (by rw [List.length_take]; omega)
    by_cases hlt : k < v.length
    · obtain ⟨b, o, rfl, hb, hc⟩ := HA.out.at_ (k := k) (by rw [nz_len]; exact hlt)
      rw [nz_getD] at hc
      have HWT := Lib.hid (rwt_take hlt)
      have k0 : (0 : Int) ≤ (k : Int) := by omega
      have k1 : (k : Int) < (v.length : Int) := by omega
      have hw1 : IntKind.i64.wrap ((k : Int) + 1) = (k : Int) + 1 := IntWalk.i64_in _ (by omega)
      have hw2 : IntKind.i64.wrap (((Dv.wt (v.take k) : Nat) : Int) + 1) = ((Dv.wt (v.take k) : Nat) : Int) + 1 := IntWalk.i64_in _ (by omega)
      by_cases hx : v.getD k 0 = 0
      · rw [if_pos hx] at HWT
        rw [hx] at hc
        clear hx
        go_wp2_with fail
        go_roundw
        case rel => exact ⟨k + 1, by omega, by go_num, by rw [HWT.out]; rfl, rfl⟩
        case measure => simp [intOf]; omega
      · rw [if_neg hx] at HWT
        have hx1 : (((v.getD k 0 : Nat) : Int) != 0) = true := by simpa using hx
        generalize v.getD k 0 = x at *
        go_wp2_with fail
        go_roundw
        case rel => exact ⟨k + 1, by omega, by go_num, by rw [HWT.out]; go_num, rfl⟩
        case measure => simp [intOf]; omega
    · obtain rfl : k = v.length := by omega
      rw [List.take_length]
      go_wp2_with fail
      go_ret
      exact ⟨rfl, rfl⟩
def RelE2 (v1 v8 : Value) : Prop := v1 = .int .i64 1 ∧ v8 = .int .i64 1 ∨ v1 = .int .i64 0 ∧ v8 = .int .i64 2
set_option maxHeartbeats 1000000 in
set_option maxRecDepth 100000 in
theorem exp_2 (w : World) : Calls Tryz.prog 166 #[.int .i64 2, .int .i64 1, .int .i64 65536] w fun e w' => e = .returned (.tuple #[.int .i64 2, .int .i64 0]) ∧ w = w' := by
  go_enter Tryz.func166, Tryz.ntmps166
  go_wp2_with fail
  go_loop [1, 8] (fun v1 v8 => RelE2 v1 v8) (fun v1 _ => (intOf v1).toNat)
  case atStart => exact .inl ⟨rfl, rfl⟩
  case round =>
    rcases hrel with ⟨rfl, rfl⟩ | ⟨rfl, rfl⟩
    · go_wp2_with fail
      go_round
      case rel => exact .inr ⟨rfl, rfl⟩
      case measure => simp [intOf]
    · go_wp2_with fail
      go_ret2
      exact ⟨rfl, rfl⟩
set_option maxHeartbeats 2000000 in
set_option maxRecDepth 100000 in
theorem esize_c (G : Nat) (w : World) (hG : RowsAt w w.heap.size (some ⟨G, 0, none⟩) [[1, 1, 1]]) :
    Calls Tryz.prog 115 #[.agg #[.int .i64 2, .int .i64 1, .slice none 0 0, .int .i64 3, .slice (some ⟨G, 0, none⟩) 1 1]] w fun e w' => e = .returned (.tuple #[.int .i64 2, .int .i64 0]) ∧ Below w.heap.size w w' := by
  have HX := Lib.hid (bx_new w [.int .i64 2, .int .i64 1, .slice none 0 0, .int .i64 3, .slice (some ⟨G, 0, none⟩) 1 1] 30)
  have HG := Lib.hid hG
  clear hG
  go_enter Tryz.func115, Tryz.ntmps115
  go_upto_region 1 with fail
  generalize w.alloc (.cells #[.int .i64 2, .int .i64 1, .slice none 0 0, .int .i64 3, .slice (some ⟨G, 0, none⟩) 1 1] 30) = W0 at *
  have HRG := Lib.hid HX.out.field
  have HN : Hid (Calls Tryz.prog 72 #[.agg #[.int .i64 2, .int .i64 1, .slice none 0 0]] W0 fun e w' => (∃ gb, e = .returned (.tuple #[.pointer (some ⟨gb, 0, none⟩), .int .i64 0]) ∧ GFUp w' W0.heap.size gb 2 1 lT (logL lT (2 ^ 1))) ∧ Below W0.heap.size W0 w') := (fnew_up 2 1 [] none 0 W0 (fun h => absurd h (by simp)) (by kernel_rfl))
  go_wp2_with (refine wpList_load_mid rfl 27 (.tmp 8) rfl w.heap.size 0 rfl [.int .i64 2, .int .i64 1, .slice none 0 0] _ HRG.out Tryz.underlying27 rfl fieldSize ?_)
  (with_reducible refine HN.out.mono ?_)
  rintro e w1 ⟨⟨gb, rfl, hg⟩, hb1⟩
  have HX1 := Lib.hid (HX.out.grow hb1)
  have HGU := Lib.hid hg.at_
  have hgl := hg.2.1
  clear hb1 hg HN HX HRG
  clear W0
  have HRG := Lib.hid HX1.out.range
  have HCK : Hid (Calls Tryz.prog 27 #[.agg #[.int .i64 2, .int .i64 1, .slice none 0 0, .int .i64 3, .slice (some ⟨G, 0, none⟩) 1 1]] w1 fun e w' => e = .returned (.int .i64 (codeZ 2 1 [] 3 [[1, 1, 1]])) ∧ Below w1.heap.size w1 w') := (codecheck_c 2 1 [] none 0 3 [[1, 1, 1]] (some ⟨G, 0, none⟩) 1 w1 (fun h => absurd h (by simp)) (by simp) ((HG.out.keep HX1.out.below).more HX1.out.below.size) (by simp))
  rw [codeZ_rep] at HCK
  go_upto_region 2 with fail
  go_wp2_with (refine wpList_load_mid rfl 30 (.tmp 1) rfl w.heap.size 0 rfl [.int .i64 2, .int .i64 1, .slice none 0 0, .int .i64 3, .slice (some ⟨G, 0, none⟩) 1 1] _ HRG.out Tryz.underlying30 rfl codeSize ?_)
  (with_reducible refine HCK.out.mono ?_)
  rintro e w2 ⟨rfl, hb2⟩
  have HX2 := Lib.hid (HX1.out.grow hb2)
  have HG2 := Lib.hid ((HGU.out.keep hb2).more hb2.size)
  clear hb2 HCK HX1 HGU HRG
  clear hgl
  clear w1
  go_upto_region 7 with fail
  have HSD : Hid (BX w [.int .i64 2, .int .i64 1, .slice none 0 0, .int .i64 3, .slice (some ⟨G, 0, none⟩) 1 1] 30 w2.drew) := HX2.out.grow (Below.refl _ _).drew
  have HO := Lib.hid (gorder_e gb w2.drew.heap.size 2 1 lT (logL lT (2 ^ 1)) w2.drew (HG2.out.keep (Below.refl _ w2).drew))
  refine wp_region_mixf 8 8 (BX w [.int .i64 2, .int .i64 1, .slice none 0 0, .int .i64 3, .slice (some ⟨G, 0, none⟩) 1 1] 30) [(1, 0), (1, 2), (0, 3), (1, 4), (2, 1), (2, 5), (1, 6), (1, 7)] default (by kernel_rfl) (by kernel_rfl) (fun _ _ d _ _ h => by cases d <;> exact h) HSD.out ?_
  clear HX2 HG2
  generalize w2.drew = Wd at *
  simp only [List.map_cons, List.map_nil, List.getD_cons_zero, List.getD_cons_succ]
  iterate 2
    apply mixf_free rfl
    · intro V
      go_simp
      rfl
    go_simp
  apply mixf_val rfl
  · intro V hV
    have y : V.cell? ⟨w.heap.size, 4, none⟩ = some (.slice (some ⟨G, 0, none⟩) 1 1) := hV.cell rfl
    go_simp
    rfl
  go_simp
  apply mixf_free rfl
  · intro V
    go_simp
    rfl
  go_simp
  apply mixf_call rfl
  · go_simp
    exact ⟨rfl, rfl⟩
  with_reducible refine HO.out.mono ?_
  rintro e w3 ⟨rfl, rfl⟩
  refine ⟨_, rfl, HSD.out, ?_⟩
  go_simp
  apply mixf_call rfl
  · go_simp
    exact ⟨rfl, rfl⟩
  with_reducible refine (exp_2 Wd).mono ?_
  rintro e w3 ⟨rfl, rfl⟩
  refine ⟨_, rfl, HSD.out, ?_⟩
  go_simp
  iterate 2
    apply mixf_free rfl
    · intro V
      go_simp
      rfl
    go_simp
  refine mixf_nil ?_
  show wpList _ _ _ _ _ _
  clear HO
  go_wp2_with fail
  go_ret2
  exact ⟨rfl, HSD.out.below⟩
set_option maxRecDepth 100000 in
theorem ewalk_c (cs : List Value) (w : World) :
    Calls Tryz.prog 116 #[.agg cs.toArray] w fun e w' => e = .returned (.func (.func 167) #[] #[.pointer (some ⟨w.heap.size, 0, none⟩)]) ∧ w' = w.alloc (.cells cs.toArray 30) := by
  go_enter Tryz.func116, Tryz.ntmps116
  go_wp2_with fail
  go_ret
  exact ⟨rfl, rfl⟩
end Go.Proofs.YthiackegnpnmbaaGreat

