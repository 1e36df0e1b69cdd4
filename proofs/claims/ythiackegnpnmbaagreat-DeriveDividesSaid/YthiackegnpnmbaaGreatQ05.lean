/-
  The program's field: the order, primes, digits and values. Rows of integers in memory: rows of the call's own, slices that are read. The program's field: digits and values.
-/
import Derived.Test.YthiackegnpnmbaaGreatProg
import Derived.WalkLawsBesides
import Derived.WalkSpells
import Derived.LoopTactic
import Derived.Outline
import Derived.KernelRfl
import Derived.Lib.Hide
import Derived.Deep.LoopGhost
import Derived.Laws.OwnMore
import Derived.OwnWalk
import Derived.Deep.AppendLies
import Derived.Laws.MakeOwn
import Derived.Test.YthiackegnpnmbaaGreatQ02
import Derived.Test.YthiackegnpnmbaaGreatQ03
import Derived.Test.YthiackegnpnmbaaGreatQ04
namespace Go.Proofs.YthiackegnpnmbaaGreat
open Go.RowKit

/-- The order of the field, 0 if it is out of range. -/
def orderM (p m : Int) : Int := if p < 2 ∨ 256 < p ∨ m < 1 ∨ 8 < m then 0 else if 256 < p.toNat ^ m.toNat then 0 else ((p.toNat ^ m.toNat : Nat) : Int)
theorem orderM_zero {p m : Int} (h : p < 2 ∨ 256 < p ∨ m < 1 ∨ 8 < m) : orderM p m = 0 := by unfold orderM; rw [if_pos h]
theorem orderM_nat {p m : Nat} (hp : 2 ≤ p) (hp2 : p ≤ 256) (hm : 1 ≤ m) (hm2 : m ≤ 8) : orderM p m = if 256 < p ^ m then 0 else ((p ^ m : Nat) : Int) := by
  unfold orderM
  rw [if_neg (by omega)]
  rfl
theorem pow_le_mono {p k m : Nat} (hp : 2 ≤ p) (h : k ≤ m) : p ^ k ≤ p ^ m := Nat.pow_le_pow_right (by omega) h

set_option maxHeartbeats 1000000 in
theorem order_c (p m : Int) (w : World) : Calls Tryz.prog 96 #[.int .i64 p, .int .i64 m] w fun e w' => e = .returned (.int .i64 (orderM p m)) ∧ w = w' := by
  by_cases h1 : p < 2
  · have HZ := Lib.hid (orderM_zero (p := p) (m := m) (.inl h1))
    go_enter Tryz.func96, Tryz.ntmps96
    go_wp2_with fail
    go_ret
    exact ⟨ret_int HZ.out.symm, rfl⟩
  · by_cases h2 : 256 < p
    · have HZ := Lib.hid (orderM_zero (p := p) (m := m) (.inr (.inl h2)))
      go_enter Tryz.func96, Tryz.ntmps96
      go_wp2_with fail
      go_ret
      exact ⟨ret_int HZ.out.symm, rfl⟩
    · by_cases h3 : m < 1
      · have HZ := Lib.hid (orderM_zero (p := p) (m := m) (.inr (.inr (.inl h3))))
        go_enter Tryz.func96, Tryz.ntmps96
        go_wp2_with fail
        go_ret
        exact ⟨ret_int HZ.out.symm, rfl⟩
      · by_cases h4 : 8 < m
        · have HZ := Lib.hid (orderM_zero (p := p) (m := m) (.inr (.inr (.inr h4))))
          go_enter Tryz.func96, Tryz.ntmps96
          go_wp2_with fail
          go_ret
          exact ⟨ret_int HZ.out.symm, rfl⟩
        · obtain ⟨p, rfl⟩ := Int.eq_ofNat_of_zero_le (by omega : 0 ≤ p)
          obtain ⟨m, rfl⟩ := Int.eq_ofNat_of_zero_le (by omega : 0 ≤ m)
          have hp : 2 ≤ p := by omega
          have hp2 : p ≤ 256 := by omega
          have hm : 1 ≤ m := by omega
          have hm2 : m ≤ 8 := by omega
          have HM := Lib.hid (orderM_nat hp hp2 hm hm2)
          go_enter Tryz.func96, Tryz.ntmps96
          go_wp2_with fail
          go_loop [5, 21] (fun a i => ∃ k : Nat, k ≤ m ∧ p ^ k ≤ 256 ∧ i = .int .i64 k ∧ a = .int .i64 ((p ^ k : Nat) : Int)) (fun _ i => m - (intOf i).toNat)
          case atStart => exact ⟨0, by omega, by simp, rfl, by simp⟩
          case round =>
            obtain ⟨k, hk, hq, rfl, rfl⟩ := hrel
            by_cases hlt : k < m
            · have HS : Hid (p ^ (k + 1) = p ^ k * p) := Nat.pow_succ _ _
              have HL := Lib.hid (pow_le_mono hp (show k + 1 ≤ m by omega))
              generalize p ^ k = q at *
              have hb : (q : Int) * (p : Int) ≤ 65536 := by
                have : q * p ≤ 256 * 256 := Nat.mul_le_mul hq hp2
                have h2 : ((q * p : Nat) : Int) = (q : Int) * (p : Int) := Int.natCast_mul _ _
                omega
              have hb0 : 0 ≤ (q : Int) * (p : Int) := Int.mul_nonneg (by omega) (by omega)
              by_cases hc : 256 < (q : Int) * (p : Int)
              · go_wp2_with fail
                go_ret
                refine ⟨ret_int ?_, rfl⟩
                rw [HM.out, if_pos]
                have h1 := HL.out
                rw [HS.out] at h1
                have h2 : ((q * p : Nat) : Int) = (q : Int) * (p : Int) := Int.natCast_mul _ _
                omega
              · go_wp2_with fail
                go_round
                case rel => exact ⟨k + 1, by omega, by rw [HS.out]; have h2 : ((q * p : Nat) : Int) = (q : Int) * (p : Int) := Int.natCast_mul _ _; omega, by go_num, by rw [HS.out, Int.natCast_mul]⟩
                case measure => simp [intOf]; omega
            · obtain rfl : k = m := by omega
              generalize hqq : p ^ k = q at *
              clear hqq
              go_wp2_with fail
              go_ret
              exact ⟨ret_int (by rw [HM.out, if_neg (by omega)]), rfl⟩
/-- Whether n is prime. -/
def primeP (n : Nat) : Bool := Nat.ble 2 n && Pln.primeB n
theorem primeP_iff (n : Nat) : primeP n = true ↔ (2 ≤ n ∧ ∀ d, 2 ≤ d → d * d ≤ n → n % d ≠ 0) := by
  unfold primeP Pln.primeB
  rw [Bool.and_eq_true, Nat.ble_eq, List.all_eq_true]
  constructor
  · rintro ⟨h1, h2⟩
    refine ⟨h1, fun d hd hdd hz => ?_⟩
    have hlt : d < n := by
      have : 2 * d ≤ d * d := Nat.mul_le_mul_right d hd
      omega
    have := h2 d (List.mem_range.2 hlt)
    simp only [Bool.or_eq_true, Nat.blt_eq, bne_iff_ne, ne_eq] at this
    rcases this with h | h
    · omega
    · exact h hz
  · rintro ⟨h1, h2⟩
    refine ⟨h1, fun d hd => ?_⟩
    have hlt := List.mem_range.1 hd
    simp only [Bool.or_eq_true, Nat.blt_eq, bne_iff_ne, ne_eq]
    by_cases h3 : d < 2
    · exact .inl h3
    · refine .inr fun hz => ?_
      by_cases h4 : d * d ≤ n
      · exact h2 d (by omega) h4 hz
      · have e : n = d * (n / d) := by have := Nat.div_add_mod n d; omega
        generalize n / d = t at e
        have ht : t < d := by
          refine Nat.lt_of_not_le fun hge => ?_
          have := Nat.mul_le_mul_left d hge
          omega
        have ht2 : 2 ≤ t := by
          rcases t with _ | _ | t
          · omega
          · omega
          · omega
        have h5 : t * t ≤ n := by rw [e]; exact Nat.mul_le_mul_right t (by omega)
        exact h2 t ht2 h5 (by rw [e]; exact Nat.mul_mod_left d t)
theorem primeP_false {n : Nat} (h : ¬ (2 ≤ n ∧ ∀ d, 2 ≤ d → d * d ≤ n → n % d ≠ 0)) : primeP n = false := by
  rw [← Bool.not_eq_true, primeP_iff]
  exact h
set_option maxHeartbeats 1000000 in
theorem isPrime_c (n : Nat) (hn : n ≤ 256) (w : World) : Calls Tryz.prog 153 #[.int .i64 n] w fun e w' => e = .returned (.bool (primeP n)) ∧ w = w' := by
  go_enter Tryz.func153, Tryz.ntmps153
  go_wp2_with fail
  go_loop [3] (fun i => ∃ d : Nat, 2 ≤ d ∧ d ≤ 257 ∧ i = .int .i64 d ∧ ∀ e, 2 ≤ e → e < d → e * e ≤ n → n % e ≠ 0) (fun i => 300 - (intOf i).toNat)
  case atStart => exact ⟨2, by omega, by omega, rfl, fun e h1 h2 => by omega⟩
  case round =>
    obtain ⟨d, hd, hd2, rfl, hno⟩ := hrel
    have HNO := Lib.hid hno
    clear hno
    have hb : (d : Int) * (d : Int) ≤ 66049 := by
      have : d * d ≤ 257 * 257 := Nat.mul_le_mul hd2 hd2
      have h2 : ((d * d : Nat) : Int) = (d : Int) * (d : Int) := Int.natCast_mul _ _
      omega
    have hb0 : 0 ≤ (d : Int) * (d : Int) := Int.mul_nonneg (by omega) (by omega)
    have hself : d ≤ d * d := Nat.le_mul_of_pos_left d (by omega)
    have hcast : ((d * d : Nat) : Int) = (d : Int) * (d : Int) := Int.natCast_mul _ _
    have HC := Lib.hid hcast
    clear hcast
    by_cases hc : (d : Int) * (d : Int) ≤ (n : Int)
    · have hdn : d * d ≤ n := by have := HC.out; omega
      by_cases hz : (n : Int) % (d : Int) = 0
      · have HZ := Lib.hid hz
        have hzb : ((n : Int) % (d : Int) == 0) = true := by rw [hz]; rfl
        clear hz
        go_wp2_with fail
        go_ret
        refine ⟨ret_bool ?_, rfl⟩
        refine (primeP_false ?_).symm
        rintro ⟨_, h⟩
        exact h d hd hdn (by have := HZ.out; omega)
      · have HZ := Lib.hid hz
        have hzb : ((n : Int) % (d : Int) == 0) = false := by simpa using hz
        clear hz
        go_wp2_with fail
        go_round
        case rel => exact ⟨d + 1, by omega, by omega, by go_num, fun e h1 h2 h3 => by
          by_cases he : e = d
          · subst he
            have := HZ.out
            omega
          · exact HNO.out e h1 (by omega) h3⟩
        case measure => simp [intOf]; omega
    · by_cases h2 : 2 ≤ n
      · go_wp2_with fail
        go_ret
        refine ⟨ret_bool ?_, rfl⟩
        refine Eq.trans ?_ ((primeP_iff n).2 ⟨h2, fun e h3 h4 => ?_⟩).symm
        · simp; omega
        · have hcs := HC.out
          refine HNO.out e h3 ?_ h4
          refine Nat.lt_of_not_le fun hge => ?_
          have : d * d ≤ e * e := Nat.mul_le_mul hge hge
          omega
      · go_wp2_with fail
        go_ret
        refine ⟨ret_bool ?_, rfl⟩
        refine Eq.trans ?_ (primeP_false (fun h3 => absurd h3.1 h2)).symm
        simp; omega
end Go.Proofs.YthiackegnpnmbaaGreat

namespace Go.Proofs.YthiackegnpnmbaaGreat
open Go.RowKit

def nz (l : List Nat) : List Int := l.map fun x : Nat => (x : Int)
theorem nz_len (l : List Nat) : (nz l).length = l.length := by simp [nz]
theorem nz_getD (l : List Nat) (j : Nat) : (nz l).getD j 0 = ((l.getD j 0 : Nat) : Int) := by
  unfold nz
  simp only [List.getD, List.getElem?_map]
  cases l[j]? <;> simp
theorem nz_set (l : List Nat) (j x : Nat) : (nz l).set j (x : Int) = nz (l.set j x) := by simp [nz, List.map_set]
theorem nz_take (l : List Nat) (j : Nat) : (nz l).take j = nz (l.take j) := by simp [nz, List.map_take]

theorem infoInt : (Tryz.prog.info? 3).map (fun i => (i.zero, i.size, i.bytes)) = some (some (.int .i64 0), 1, 8) := by kernel_rfl
theorem info_parts {P : Program} {t : TypeId} {z : Option Value} {s b : Nat} (h : (P.info? t).map (fun i => (i.zero, i.size, i.bytes)) = some (z, s, b)) : ∃ i, P.info? t = some i ∧ i.zero = z ∧ i.size = s ∧ i.bytes = b := by
  obtain ⟨i, hi, he⟩ := Option.map_eq_some_iff.1 h
  simp only [Prod.mk.injEq] at he
  exact ⟨i, hi, he.1, he.2.1, he.2.2⟩

theorem below_of_grown {w w' : World} (h : w.grownBy w' none) : Below w.heap.size w w' := ⟨h.os, h.tape, h.output, h.size, fun k hk => h.block k hk (by simp)⟩
/-- A row of the call's own: block g holds the integers zs. -/
def Row (w : World) (B g c : Nat) (zs : List Int) : Prop := w.ownsRow B 3 1 (.slice (some ⟨g, 0, none⟩) zs.length c) zs.length (zs.map (Value.int .i64))
section
variable {w w' : World} {B g c : Nat} {zs : List Int}
theorem Row.cell (h : Row w B g c zs) {j : Nat} (hj : j < zs.length) : w.cell? ⟨g, j, none⟩ = some (.int .i64 (zs.getD j 0)) := by
  rw [World.ownsRow.cellAt h j (by omega)]
  simp [List.getD, hj]
theorem Row.frozen (h : Row w B g c zs) (j : Nat) : w.frozen? ⟨g, j, none⟩ = false := World.ownsRow.frozenAt h j
theorem Row.lt (h : Row w B g c zs) : B ≤ g ∧ g < w.heap.size := World.ownsRow.lt h g rfl
theorem Row.set (h : Row w B g c zs) (j : Nat) (x : Int) : Row (w.setCell ⟨g, j, none⟩ (.int .i64 x)) B g c (zs.set j x) := by
  have := (World.ownsRow.stored h j (.int .i64 x)).1
  unfold Row
  rw [List.length_set, List.map_set]
  exact this
theorem Row.grown {row : Option Nat} (h : Row w B g c zs) (hg : w.grownBy w' row) (hne : some g ≠ row) : Row w' B g c zs := World.ownsRow.kept h hg (.inr hne)
theorem Row.below (h : Row w B g c zs) {B' : Nat} (hb : Below B' w w') (hg : g < B') : Row w' B g c zs := by
  refine ⟨h.1, ?_⟩
  rcases h.2 with ⟨h1, _⟩ | ⟨g', cap, cur, hv, hB, hh, r⟩
  · cases h1
  · have : g' = g := by
      simp only [Value.slice.injEq, Option.some.injEq, Addr.mk.injEq, and_true, true_and] at hv
      exact hv.1.symm
    exact .inr ⟨g', cap, cur, hv, hB, (hb.block g' (by omega)).trans hh, r⟩
theorem Row.far (h : Row w B g c zs) {p : Addr} (hp : g ≠ p.block) (u : Value) : Row (w.setCell p u) B g c zs := by
  refine ⟨h.1, ?_⟩
  rcases h.2 with ⟨h1, _⟩ | ⟨g', cap, cur, hv, hB, hh, r⟩
  · cases h1
  · have : g' = g := by
      simp only [Value.slice.injEq, Option.some.injEq, Addr.mk.injEq, and_true, true_and] at hv
      exact hv.1.symm
    exact .inr ⟨g', cap, cur, hv, hB, (Below.heap_setCell w p u g' (by omega)).trans hh, r⟩
theorem Row.alloc (h : Row w B g c zs) (o : Obj) : Row (w.alloc o) B g c zs := World.ownsRow.alloc h o
theorem Row.base {B' : Nat} (h : Row w B g c zs) (hB : B' ≤ g) : Row w B' g c zs := by
  refine ⟨h.1, ?_⟩
  rcases h.2 with ⟨h1, _⟩ | ⟨g', cap, cur, hv, hb, hh, r⟩
  · cases h1
  · have : g' = g := by
      simp only [Value.slice.injEq, Option.some.injEq, Addr.mk.injEq, and_true, true_and] at hv
      exact hv.1.symm
    exact .inr ⟨g', cap, cur, hv, by omega, hh, r⟩
theorem Row.cur (h : Row w B g c zs) : ∃ cur : List Value, w.heap[g]? = some (.cells cur.toArray 3 (0, 0)) ∧ zs.length ≤ cur.length ∧ cur.take zs.length = zs.map (Value.int .i64) ∧
    ∀ (w' : World) (cur' : List Value) (zs' : List Int), w'.heap[g]? = some (.cells cur'.toArray 3 (0, 0)) → cur'.length = cur.length → zs'.length = zs.length → cur'.take zs.length = zs'.map (Value.int .i64) → Row w' B g c zs' := by
  rcases h.2 with ⟨h1, _⟩ | ⟨g', cap, cur, hv, hB, hh, h1, h2, h3, h4⟩
  · cases h1
  · have hv' := hv
    simp only [Value.slice.injEq, Option.some.injEq, Addr.mk.injEq, and_true, true_and] at hv'
    obtain ⟨rfl, rfl⟩ := hv'
    refine ⟨cur.toList, by simpa using hh, by simp; omega, by simpa using h4, fun w' cur' zs' e1 e2 e3 e4 => ⟨by simp [e3], .inr ⟨g, c, cur'.toArray, by rw [e3], hB, e1, by omega, h2, by simp [e2]; omega, ?_⟩⟩⟩
    rw [e3]
    simpa using e4
theorem Row.of_make {n : Nat} (h : w.ownsRow B 3 1 (.slice (some ⟨g, 0, none⟩) n c) n (madeCells (Value.int .i64 0).cells (n * 1)).toList) : Row w B g c (nz (List.replicate n 0)) := by
  unfold Row
  have e : (madeCells (Value.int .i64 0).cells (n * 1)).toList = (nz (List.replicate n 0)).map (Value.int .i64) := by
    apply List.ext_getElem
    · simp [madeCells, nz]
    · intro i h1 h2
      simp [madeCells, nz, Value.cells, Nat.mod_one]
  rw [nz_len, List.length_replicate, ← e]
  exact h
end

/-- A slice that reads as the integers zs, below block B. -/
def IntsAt (w : World) (B : Nat) (A : Option Addr) (zs : List Int) : Prop :=
  0 < zs.length → ∃ b o, A = some ⟨b, o, none⟩ ∧ b < B ∧ ∀ j, j < zs.length → w.cell? ⟨b, o + j, none⟩ = some (.int .i64 (zs.getD j 0))
theorem IntsAt.keep {w w' : World} {B : Nat} {A : Option Addr} {zs : List Int} (h : IntsAt w B A zs) (hb : Below B w w') : IntsAt w' B A zs := fun hz => by
  obtain ⟨b, o, e, hlt, hc⟩ := h hz
  exact ⟨b, o, e, hlt, fun j hj => (hb.cell (p := ⟨b, o + j, none⟩) hlt).trans (hc j hj)⟩
theorem IntsAt.more {w : World} {B B' : Nat} {A : Option Addr} {zs : List Int} (h : IntsAt w B A zs) (hB : B ≤ B') : IntsAt w B' A zs := fun hz => by
  obtain ⟨b, o, e, hlt, hc⟩ := h hz
  exact ⟨b, o, e, by omega, hc⟩
theorem IntsAt.grow {w w' : World} {B : Nat} {A : Option Addr} {zs : List Int} (h : IntsAt w B A zs) (hB : B ≤ w.heap.size) (hb : Below w.heap.size w w') : IntsAt w' B A zs := h.keep (hb.mono hB)
theorem IntsAt.at_ {w : World} {B : Nat} {A : Option Addr} {zs : List Int} (h : IntsAt w B A zs) {k : Nat} (hk : k < zs.length) : ∃ b o, A = some ⟨b, o, none⟩ ∧ b < B ∧ w.cell? ⟨b, o + k, none⟩ = some (.int .i64 (zs.getD k 0)) := by
  obtain ⟨b, o, e, hlt, hc⟩ := h (by omega)
  exact ⟨b, o, e, hlt, hc k hk⟩
theorem Row.ints {w : World} {B g c B' : Nat} {zs : List Int} (h : Row w B g c zs) (hB : g < B') : IntsAt w B' (some ⟨g, 0, none⟩) zs := fun _ =>
  ⟨g, 0, rfl, hB, fun j hj => by rw [Nat.zero_add]; exact h.cell hj⟩
end Go.Proofs.YthiackegnpnmbaaGreat

namespace Go.Proofs.YthiackegnpnmbaaGreat
open Go.RowKit Pln

theorem digs_snoc (p : Nat) : ∀ k x, digs p (k + 1) x = digs p k x ++ [x / p ^ k % p]
  | 0, x => by simp [digs]
  | k + 1, x => by
    have := digs_snoc p k (x / p)
    rw [digs, this]
    simp only [digs, List.cons_append]
    rw [Nat.div_div_eq_div_mul, Nat.pow_succ, Nat.mul_comm p]
def dgK (p m x k : Nat) : List Nat := digs p k x ++ List.replicate (m - k) 0
theorem dgK_set (p m x k : Nat) (hk : k < m) : (dgK p m x k).set k (x / p ^ k % p) = dgK p m x (k + 1) := by
  unfold dgK
  rw [digs_snoc]
  rw [List.set_append_right _ _ (by rw [digs_len]; exact Nat.le_refl _), digs_len, Nat.sub_self, show m - k = (m - (k + 1)) + 1 by omega, List.replicate_succ]
  simp
theorem dgK_len (p m x k : Nat) (hk : k ≤ m) : (dgK p m x k).length = m := by simp [dgK, digs_len]; omega
def RelDig (w : World) (p m x : Nat) (v0 v13 : Value) (wr : World) : Prop :=
  ∃ k, k ≤ m ∧ v0 = .int .i64 ((x / p ^ k : Nat) : Int) ∧ v13 = .int .i64 k ∧ Row wr w.heap.size w.heap.size m (nz (dgK p m x k)) ∧ Below w.heap.size w wr

set_option maxHeartbeats 1000000 in
theorem digitsOf_c (x p m : Nat) (w : World) (hx : x ≤ 1000000000) (hp : 1 ≤ p) (hp2 : p ≤ 1000000000) (hm : m ≤ 1000) :
    Calls Tryz.prog 199 #[.int .i64 x, .int .i64 p, .int .i64 m] w fun e w' => e = .returned (.slice (some ⟨w.heap.size, 0, none⟩) m m) ∧ Row w' w.heap.size w.heap.size m (nz (digs p m x)) ∧ Below w.heap.size w w' := by
  obtain ⟨i0, hi, hz0, hz1, hz2⟩ := info_parts infoInt
  have HI := Lib.hid hi
  have HZ0 := Lib.hid hz0
  have HZ1 := Lib.hid hz1
  have HB2 := Lib.hid (show i0.bytes * m ≤ 281474976710656 by rw [hz2]; omega)
  have HB3 := Lib.hid (show m ≤ maxLen by unfold maxLen; omega)
  clear hi hz0 hz1 hz2
  go_enter Tryz.func199, Tryz.ntmps199
  go_wp2_with (refine wpList_make_full w rfl (.tmp 9) (.tmp 9) 23 rfl w.heap.size 3 i0 (.int .i64 0) 1 Tryz.underlying23 HI.out HZ0.out HZ1.out .i64 .i64 m m m rfl rfl rfl rfl HB2.out HB3.out (Nat.le_refl _) ?_; intro w1 hown hgr)
  have HR := Lib.hid (Row.of_make hown)
  have HB := Lib.hid (below_of_grown hgr)
  clear hown hgr
  go_loopw [0, 13] (fun v0 v13 wr => RelDig w p m x v0 v13 wr) (fun _ v13 _ => m - (intOf v13).toNat)
  case atStart => exact ⟨0, by omega, by simp, rfl, HR.out, HB.out⟩
  case round =>
    obtain ⟨k, hk, rfl, rfl, hrow, hb⟩ := hrel
    have HR2 := Lib.hid hrow
    have HB2' := Lib.hid hb
    have hf := hrow.frozen k
    have HD : Hid (x / p ^ (k + 1) = x / p ^ k / p) := by rw [Nat.pow_succ, ← Nat.div_div_eq_div_mul]; rfl
    have hdx : x / p ^ k ≤ 1000000000 := Nat.le_trans (Nat.div_le_self _ _) hx
    have HS := Lib.hid (fun h => dgK_set p m x k h)
    have HLEN := Lib.hid (dgK_len p m x k hk)
    by_cases hlt : k < m
    · have hc := hrow.cell (j := k) (by rw [nz_len, HLEN.out]; exact hlt)
      clear hrow hb HR HB
      generalize x / p ^ k = y at *
      have hq0 : 0 ≤ (y : Int) / (p : Int) := Int.ediv_nonneg (by omega) (by omega)
      have hq1 : (y : Int) / (p : Int) ≤ (y : Int) := Int.ediv_le_self _ (by omega)
      go_wp2_with fail
      go_roundw
      case rel =>
        refine ⟨k + 1, by omega, by rw [HD.out]; go_num, by go_num, ?_, (HB2'.out.setCell (Nat.le_refl _) _)⟩
        rw [← HS.out hlt, ← nz_set]
        exact HR2.out.set k _
      case measure => simp [intOf]; omega
    · obtain rfl : k = m := by omega
      clear hrow hb HR HB
      generalize x / p ^ k = y at *
      go_wp2_with fail
      go_ret
      refine ⟨rfl, ?_, HB2'.out⟩
      have := HR2.out
      unfold dgK at this
      rw [Nat.sub_self, List.replicate_zero, List.append_nil] at this
      exact this
theorem val_drop (p : Nat) (l : List Nat) (k : Nat) (hk : k < l.length) : val p (l.drop k) = val p (l.drop (k + 1)) * p + l.getD k 0 := by
  rw [List.drop_eq_getElem_cons hk, val, Nat.mul_comm, Nat.add_comm]
  simp [List.getD, hk]
theorem val_drop_lt {p : Nat} (hp : 0 < p) {l : List Nat} (hl : ∀ d ∈ l, d < p) (k : Nat) : val p (l.drop k) < p ^ (l.length - k) := by
  have := val_lt hp (l.drop k) (fun d hd => hl d (List.mem_of_mem_drop hd))
  rwa [List.length_drop] at this

set_option maxHeartbeats 1000000 in
theorem valueOf_c (A : Option Addr) (l : List Nat) (c p : Nat) (w : World) (hA : IntsAt w w.heap.size A (nz l)) (hp : 1 ≤ p) (hl : ∀ d ∈ l, d < p) (hq : p ^ l.length ≤ 1000000000) (hp2 : p ≤ 1000000000) (hll : l.length ≤ 1000) :
    Calls Tryz.prog 200 #[.slice A l.length c, .int .i64 p] w fun e w' => e = .returned (.int .i64 ((val p l : Nat) : Int)) ∧ w = w' := by
  have HA := Lib.hid hA
  have HL := Lib.hid hl
  clear hA hl
  go_enter Tryz.func200, Tryz.ntmps200
  go_wp2_with fail
  go_loop [5, 6] (fun v5 v6 => ∃ k : Nat, k ≤ l.length ∧ v6 = .int .i64 ((k : Int) - 1) ∧ v5 = .int .i64 ((val p (l.drop k) : Nat) : Int)) (fun _ v6 => (intOf v6 + 1).toNat)
  case atStart => exact ⟨l.length, Nat.le_refl _, rfl, by simp [val]⟩
  case round =>
    obtain ⟨k, hk, rfl, rfl⟩ := hrel
    rcases k with _ | k
    · go_wp2_with fail
      go_ret
      exact ⟨ret_int (by simp), rfl⟩
    · obtain ⟨b, o, rfl, hlt, hc⟩ := HA.out.at_ (k := k) (by rw [nz_len]; omega)
      rw [nz_getD] at hc
      have HV := Lib.hid (val_drop p l k (by omega))
      have hv1 := val_drop_lt hp HL.out k
      have hv2 : p ^ (l.length - k) ≤ p ^ l.length := Nat.pow_le_pow_right hp (by omega)
      have hv3 : val p (l.drop k) ≤ 1000000000 := by omega
      have hv0 : val p (l.drop (k + 1)) * p + l.getD k 0 ≤ 1000000000 := by rw [← HV.out]; exact hv3
      generalize val p (l.drop (k + 1)) = y at *
      generalize l.getD k 0 = z at *
      have hm1 : (y : Int) * (p : Int) + (z : Int) ≤ 1000000000 := by
        have : ((y * p + z : Nat) : Int) = (y : Int) * (p : Int) + (z : Int) := by rw [Int.natCast_add, Int.natCast_mul]
        omega
      have hm0 : 0 ≤ (y : Int) * (p : Int) := Int.mul_nonneg (by omega) (by omega)
      have hk1 : ((k + 1 : Nat) : Int) - 1 = (k : Int) := by omega
      rw [hk1]
      clear hv1 hv2 hv3 hv0
      go_wp2_with fail
      go_round
      case rel => exact ⟨k, by omega, rfl, by rw [HV.out, Int.natCast_add, Int.natCast_mul]⟩
      case measure => simp [intOf]
theorem valueOf_n (A : Option Addr) (l : List Nat) (n c p : Nat) (w : World) (hA : IntsAt w w.heap.size A (nz l)) (hp : 1 ≤ p) (hl : Pln.Dig p n l) (hq : p ^ n ≤ 1000000000) (hp2 : p ≤ 1000000000) (hll : n ≤ 1000) :
    Calls Tryz.prog 200 #[.slice A n c, .int .i64 p] w fun e w' => e = .returned (.int .i64 ((val p l : Nat) : Int)) ∧ w = w' := by
  obtain ⟨rfl, h2⟩ := hl
  exact valueOf_c A l c p w hA hp h2 hq hp2 hll
end Go.Proofs.YthiackegnpnmbaaGreat

