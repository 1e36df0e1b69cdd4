/-
  code.own, code.of, code.New where nothing is wrong; modify.gen. code.of, code.New where nothing is wrong. code.own, code.of at a field without a polynomial; code.Dual at the code of 000 and 111. The reference: Of.
-/
import Derived.Test.YthiackegnpnmbaaGreatQ41
import Derived.Test.YthiackegnpnmbaaGreatQ40
import Derived.Test.YthiackegnpnmbaaGreatQ38
namespace Go.Proofs.YthiackegnpnmbaaGreat
open Go.RowKit Pln

end Go.Proofs.YthiackegnpnmbaaGreat

namespace Go.Proofs.YthiackegnpnmbaaGreat
open Go.RowKit Pln

/-- A code in memory: its field's list and its rows. -/
def CodeAt (w : World) (A : Option Addr) (mod : List Int) (R : Option Addr) (rows : List (List Nat)) : Prop := IntsAt w w.heap.size A mod ∧ RowsAt w w.heap.size R (nzs rows)
def OfPost (w : World) (p m : Int) (mod : List Int) (cols : Int) (A : Option Addr) (n c : Nat) (e : Ending) (w' : World) : Prop :=
  (∃ (g c' : Nat), e = .returned (.tuple #[.agg #[.int .i64 p, .int .i64 m, .slice (some ⟨g, 0, none⟩) mod.length c', .int .i64 cols, .slice A n c], .int .i64 0]) ∧ IntsUp w' w.heap.size (some ⟨g, 0, none⟩) mod) ∧ Below w.heap.size w w'
/-- The boxes of a function of a field and a matrix that returns a code. -/
structure BoxC (w : World) (f a r : List Value) (W : World) : Prop where
  below : Below w.heap.size w W
  size : w.heap.size + 2 < W.heap.size
  k0 : W.heap[w.heap.size]? = some (.cells f.toArray 27 (0, 0))
  k1 : W.heap[w.heap.size + 1]? = some (.cells a.toArray 53 (0, 0))
  k2 : W.heap[w.heap.size + 1 + 1]? = some (.cells r.toArray 30 (0, 0))
section
variable {w : World} {f a r : List Value} {W W' : World}
theorem BoxC.keep (h : BoxC w f a r W) (hb : Below W.heap.size W W') : BoxC w f a r W' := by
  have hs := h.size
  exact ⟨h.below.trans (hb.mono (by omega)), Nat.lt_of_lt_of_le hs hb.size, (hb.block _ (by omega)).trans h.k0, (hb.block _ (by omega)).trans h.k1, (hb.block _ (by omega)).trans h.k2⟩
theorem BoxC.set (h : BoxC w f a r W) (r' : List Value) : BoxC w f a r' (W.setRow (w.heap.size + 1 + 1) r'.toArray) :=
  ⟨below_setRow h.below (by omega) _, by simpa using h.size, (setRow_other W _ _ _ (by omega)).trans h.k0, (setRow_other W _ _ _ (by omega)).trans h.k1, setRow_same W _ _ _ _ h.k2⟩
theorem boxC (w : World) (f a r : Array Value) : BoxC w f.toList a.toList r.toList (((w.alloc (.cells f 27)).alloc (.cells a 53)).alloc (.cells r 30)) := by
  refine ⟨(((Below.refl _ _).alloc (Nat.le_refl _) _).alloc (by simp) _).alloc (by simp; omega) _, by simp, ?_, ?_, ?_⟩
  · exact (Below.heap_alloc _ _ _ (by simp; omega)).trans ((Below.heap_alloc _ _ _ (by simp)).trans (heap_alloc_new _ _))
  · exact (Below.heap_alloc _ _ _ (by simp)).trans (alloc_at (by simp) _)
  · exact alloc_at (by simp) _
end

def NewPost (w : World) (p m : Int) (mod : List Int) (cols : Int) (rows : List (List Nat)) (e : Ending) (w' : World) : Prop :=
  (∃ (g c' : Nat) (R : Option Addr) (k : Nat), e = .returned (.tuple #[.agg #[.int .i64 p, .int .i64 m, .slice (some ⟨g, 0, none⟩) mod.length c', .int .i64 cols, .slice R rows.length k], .int .i64 0]) ∧ IntsUp w' (w.heap.size + 1 + 1 + 1) (some ⟨g, 0, none⟩) mod ∧ RowsUp w' (w.heap.size + 1 + 1 + 1) R (nzs rows)) ∧ Below w.heap.size w w'

end Go.Proofs.YthiackegnpnmbaaGreat

namespace Go.Proofs.YthiackegnpnmbaaGreat
open Go.RowKit Pln

section
variable {P : Program} {S : World → Prop} {K : Act → World → Prop} {o : Oper} {r : List (Nat × Oper)} {a : Act} {w : World}
theorem mixf_store_row (hg : o.guard = none) (ty : TypeId) (x y : Operand) (ho : o.op = .store ty x y)
    (b : Nat) (t : TypeId) (c c' : Array Value) (hx : a.eval x = .pointer (some ⟨b, 0, none⟩)) (hy : a.eval y = .agg c') (hb : w.heap[b]? = some (.cells c t (0, 0)))
    (hi : (P.info? ty).map (·.size) = some c'.size) (hs : c.size = c'.size) (h1 : c'.all (·.oneCell') = true)
    (h : wpMixF P S K r (a.put o.dst undef) (w.setRow b c')) : wpMixF P S K ((3, o) :: r) a w :=
  mixf_store hg (by
    unfold execOp
    simp only [ho, hx, hy, Instr.storeAt, Instr.sureAddr, Sem.run_bind, Sem.run_pure, Result.andThen_ok, run_storeVar_row w b t ty c c' hb hi hs h1]) h
end
set_option maxRecDepth 100000 in
theorem clone_nil (w : World) : Calls Tryz.prog 74 #[.slice none 0 0] w fun e w' => e = .returned (.slice none 0 0) ∧ w = w' := by
  have hen : ∀ (W : World), (binOp .eql 23 (.slice none 0 0) (.slice none 0 0)).run Tryz.prog W = .ok (.bool true) W := fun W => Lib.run_eql_slice_nil W 23 3 none 0 0 0 0 Tryz.underlying23
  go_enter Tryz.func74, Tryz.ntmps74
  go_wp2_with fail
  go_ret
  exact ⟨rfl, rfl⟩
set_option maxHeartbeats 1000000 in
set_option maxRecDepth 100000 in
theorem own_nil (p m : Int) (w : World) :
    Calls Tryz.prog 201 #[.agg #[.int .i64 p, .int .i64 m, .slice none 0 0]] w fun e w' => e = .returned (.agg #[.int .i64 p, .int .i64 m, .slice none 0 0]) ∧ Below w.heap.size w w' := by
  have HB0 : Hid (Below w.heap.size w ((w.alloc (.cells #[.int .i64 p, .int .i64 m, .slice none 0 0] 27)).alloc (.cells #[.int .i64 0, .int .i64 0, .slice none 0 0] 27))) := ((Below.refl _ _).alloc (Nat.le_refl _) _).alloc (by simp) _
  have HK0 : Hid (((w.alloc (.cells #[.int .i64 p, .int .i64 m, .slice none 0 0] 27)).alloc (.cells #[.int .i64 0, .int .i64 0, .slice none 0 0] 27)).heap[w.heap.size]? = some (.cells [.int .i64 p, .int .i64 m, .slice none 0 0].toArray 27 (0, 0))) := (Below.heap_alloc _ _ _ (by simp)).trans (heap_alloc_new _ _)
  have HK1 : Hid (((w.alloc (.cells #[.int .i64 p, .int .i64 m, .slice none 0 0] 27)).alloc (.cells #[.int .i64 0, .int .i64 0, .slice none 0 0] 27)).heap[w.heap.size + 1]? = some (.cells #[.int .i64 0, .int .i64 0, .slice none 0 0] 27 (0, 0))) := alloc_at (by simp) _
  go_enter Tryz.func201, Tryz.ntmps201
  go_wp2_with fail
  generalize (w.alloc (.cells #[.int .i64 p, .int .i64 m, .slice none 0 0] 27)).alloc (.cells #[.int .i64 0, .int .i64 0, .slice none 0 0] 27) = W0 at *
  (with_reducible refine (clone_nil W0).mono ?_)
  rintro e w1 ⟨rfl, rfl⟩
  have y2 : W0.cell? ⟨w.heap.size, 2, none⟩ = some (.slice none 0 0) := cell_of_row _ _ 2 _ _ _ HK0.out
  have f2 : W0.frozen? ⟨w.heap.size, 2, none⟩ = false := by simp [World.frozen?, HK0.out]
  have K0 := Lib.hid (heap_set_same HK0.out 2 (.slice none 0 0))
  have K1 := Lib.hid ((Below.heap_setCell W0 ⟨w.heap.size, 2, none⟩ (.slice none 0 0) (w.heap.size + 1) (by show w.heap.size + 1 ≠ w.heap.size; omega)).trans HK1.out)
  have HB2 := Lib.hid (HB0.out.setCell (p := ⟨w.heap.size, 2, none⟩) (Nat.le_refl _) (.slice none 0 0))
  go_upto_region 2 with fail
  generalize W0.setCell ⟨w.heap.size, 2, none⟩ (.slice none 0 0) = w2 at *
  clear y2 f2
  have HRG : Hid (w2.rangeAt w.heap.size 0 [.int .i64 p, .int .i64 m, .slice none 0 0]) := range_of_row K0.out
  have HK2 : Hid ((w2.setRow (w.heap.size + 1) #[.int .i64 p, .int .i64 m, .slice none 0 0]).heap[w.heap.size + 1]? = some (.cells #[.int .i64 p, .int .i64 m, .slice none 0 0] 27 (0, 0))) := setRow_same _ _ _ _ _ K1.out
  go_wp2_with (first | (refine wpList_load_mid rfl 27 (.tmp 1) rfl w.heap.size 0 rfl [.int .i64 p, .int .i64 m, .slice none 0 0] _ HRG.out Tryz.underlying27 rfl fieldSize ?_) | (refine wpList_store_row rfl 27 (.tmp 2) (.tmp 7) rfl w2 (w.heap.size + 1) 27 #[.int .i64 0, .int .i64 0, .slice none 0 0] #[.int .i64 p, .int .i64 m, .slice none 0 0] rfl rfl K1.out fieldSize rfl (by simp [Value.oneCell']) ?_))
  refine bodyPost_ret (results_cell_row (P := Tryz.prog) rfl _ _ (w.heap.size + 1) 27 #[.int .i64 p, .int .i64 m, .slice none 0 0] (0, 0) _ rfl HK2.out Tryz.underlying27 rfl fieldSize) rfl ?_
  exact ⟨rfl, below_setRow HB2.out (by omega) _⟩
set_option maxHeartbeats 1000000 in
set_option maxRecDepth 100000 in
theorem of_nil (p m cols : Int) (A : Option Addr) (n c : Nat) (w : World) :
    Calls Tryz.prog 157 #[.agg #[.int .i64 p, .int .i64 m, .slice none 0 0], .agg #[.int .i64 cols, .slice A n c], .int .i64 0] w fun e w' => e = .returned (.tuple #[.agg #[.int .i64 p, .int .i64 m, .slice none 0 0, .int .i64 cols, .slice A n c], .int .i64 0]) ∧ Below w.heap.size w w' := by
  have HX : Hid (BoxC w [.int .i64 p, .int .i64 m, .slice none 0 0] [.int .i64 cols, .slice A n c] [.int .i64 0, .int .i64 0, .slice none 0 0, .int .i64 0, .slice none 0 0] (((w.alloc (.cells #[.int .i64 p, .int .i64 m, .slice none 0 0] 27)).alloc (.cells #[.int .i64 cols, .slice A n c] 53)).alloc (.cells #[.int .i64 0, .int .i64 0, .slice none 0 0, .int .i64 0, .slice none 0 0] 30))) := boxC w _ _ _
  go_enter Tryz.func157, Tryz.ntmps157
  go_upto_region 3 with fail
  generalize ((w.alloc (.cells #[.int .i64 p, .int .i64 m, .slice none 0 0] 27)).alloc (.cells #[.int .i64 cols, .slice A n c] 53)).alloc (.cells #[.int .i64 0, .int .i64 0, .slice none 0 0, .int .i64 0, .slice none 0 0] 30) = W0 at *
  have HRNG : Hid (∀ W, LSt W0 W → W.rangeAt w.heap.size 0 [.int .i64 p, .int .i64 m, .slice none 0 0]) := fun W hW => range_of_row (HX.out.keep hW).k0
  have HCV : Hid (∀ W, LSt W0 W → W.cell? ⟨w.heap.size + 1, 0, none⟩ = some (.int .i64 cols) ∧ W.cell? ⟨w.heap.size + 1, 1, none⟩ = some (.slice A n c)) := fun W hW => ⟨cell_of_row _ _ 0 _ _ _ (HX.out.keep hW).k1, cell_of_row _ _ 1 _ _ _ (HX.out.keep hW).k1⟩
  have HS0 : Hid (LSt W0 W0.drew) := (Below.refl _ _).drew
  refine wp_region_mix 7 (LSt W0) [(true, 0), (true, 2), (true, 3), (true, 4), (true, 5), (false, 1), (true, 6)] default (by kernel_rfl) (by kernel_rfl) (fun _ _ d _ _ h => by cases d <;> exact h) HS0.out ?_
  simp only [List.map_cons, List.map_nil, List.getD_cons_zero, List.getD_cons_succ]
  refine mix_load_mid rfl 27 (.tmp 3) rfl w.heap.size 0 rfl [.int .i64 p, .int .i64 m, .slice none 0 0] _ HRNG.out Tryz.underlying27 rfl fieldSize ?_
  go_simp
  iterate 4
    apply mix_val rfl
    · intro W hW
      obtain ⟨z0, z1⟩ := HCV.out W hW
      go_simp
      rfl
    go_simp
  apply mix_call rfl
  · go_simp
    exact ⟨rfl, rfl⟩
  with_reducible refine (own_nil p m W0.drew).mono ?_
  rintro e w1 ⟨rfl, hb1⟩
  refine ⟨_, rfl, HS0.out.trans hb1, ?_⟩
  go_simp
  apply mix_val rfl
  · intro W hW
    go_simp
    rfl
  go_simp
  refine mix_nil ?_
  have HX1 := Lib.hid (HX.out.keep (HS0.out.trans hb1))
  have HK2 := Lib.hid HX1.out.k2
  have HY := Lib.hid (HX1.out.set [.int .i64 p, .int .i64 m, .slice none 0 0, .int .i64 cols, .slice A n c])
  clear hb1
  go_wp2_with (refine wpList_store_row rfl 30 (.tmp 6) (.tmp 18) rfl w1 (w.heap.size + 1 + 1) 30 #[.int .i64 0, .int .i64 0, .slice none 0 0, .int .i64 0, .slice none 0 0] #[.int .i64 p, .int .i64 m, .slice none 0 0, .int .i64 cols, .slice A n c] rfl rfl HK2.out codeSize rfl (by simp [Value.oneCell']) ?_)
  refine bodyPost_ret (results_row_one (P := Tryz.prog) rfl _ _ (w.heap.size + 1 + 1) 30 #[.int .i64 p, .int .i64 m, .slice none 0 0, .int .i64 cols, .slice A n c] (0, 0) _ _ rfl rfl HY.out.k2 Tryz.underlying30 rfl codeSize) rfl ?_
  exact ⟨rfl, HY.out.below⟩
end Go.Proofs.YthiackegnpnmbaaGreat

namespace Go.Proofs.YthiackegnpnmbaaGreat
open Go.RowKit Pln

theorem inV_nat {p m : Nat} {md : List Nat} {A : Option Addr} {n cols : Nat} {rows : List (List Nat)} {Ah : Option Addr} {w : World} (h : RCode p m md A n cols rows Ah w) (x : Int) : ∃ y : Nat, inV p m x = (y : Int) ∧ y < p ^ m := by
  have hq := h.fld.small.q
  have ho := orderM_nat h.fld.small.p1 h.fld.small.p2 h.fld.small.m1 h.fld.small.m2
  rw [if_neg (by omega)] at ho
  obtain ⟨q2, _⟩ := h.q2
  unfold inV
  rw [ho]
  generalize p ^ m = q at *
  by_cases hb : inB (q : Int) x = true
  · rw [if_pos hb]
    unfold inB at hb
    rw [Bool.and_eq_true, decide_eq_true_eq, decide_eq_true_eq] at hb
    exact ⟨x.toNat, by omega, by omega⟩
  · rw [if_neg hb]
    exact ⟨0, rfl, by omega⟩
def RelOf (w : World) (cs : List Value) (g k q : Nat) (v6 : Value) (wr : World) : Prop :=
  ∃ (i : Nat) (l : List Nat), i ≤ k ∧ v6 = .int .i64 i ∧ BX w cs 30 wr ∧ Row wr (w.heap.size + 1) g k (nz l) ∧ l.length = k ∧ ∀ x ∈ l, x < q
def OSc (w : World) (cs : List Value) (bz oz i : Nat) (x : Int) (W : World) : Prop := BX w cs 30 W ∧ W.cell? ⟨bz, oz + i, none⟩ = some (.int .i64 x)
set_option maxHeartbeats 1000000 in
set_option maxRecDepth 100000 in
theorem rof_c {p m : Nat} {md : List Nat} {A : Option Addr} {n cols : Nat} {rows : List (List Nat)} {Ah : Option Addr} {w : World} (h : RCode p m md A n cols rows Ah w) (c ch : Nat) (zs : List Int) (Az : Option Addr) (cz : Nat) (hz : IntsAt w w.heap.size Az zs) (hzl : zs.length ≤ 9223372036854775807) :
    Calls Tryz.prog 9 #[.agg #[.int .i64 p, .int .i64 m, .slice A n c, .int .i64 cols, .slice Ah rows.length ch], .slice Az zs.length cz] w fun e w' => (∃ (g : Nat) (msg : List Nat), e = .returned (.slice (some ⟨g, 0, none⟩) cols cols) ∧ msg.length = rows.length ∧ (∀ x ∈ msg, x < p ^ m) ∧ Row w' w.heap.size g cols (nz (cwO p m md cols rows msg)) ∧ (cwO p m md cols rows msg).length = cols) ∧ Below w.heap.size w w' := by
  have HX := Lib.hid (bx_new w [.int .i64 (p : Int), .int .i64 (m : Int), .slice A n c, .int .i64 (cols : Int), .slice Ah rows.length ch] 30)
  have HIN : Hid (∀ x, ∃ y : Nat, inV p m x = (y : Int) ∧ y < p ^ m) := inV_nat h
  have HRI : Hid (∀ (x : Int) (W : World), Calls Tryz.prog 19 #[.agg #[.int .i64 p, .int .i64 m, .slice A n c], .int .i64 x] W fun e w' => e = .returned (.int .i64 (inV p m x)) ∧ Below W.heap.size W w') := fun x W => rinG_c p m A n c x W
  have HZ := Lib.hid hz
  have hlen := h.len
  obtain ⟨q2, q3⟩ := h.q2
  have HC : Hid (∀ (msg : List Nat) (g : Nat) (W : World), Below w.heap.size w W → Row W (w.heap.size + 1) g rows.length (nz msg) → (∀ x ∈ msg, x < p ^ m) → msg.length = rows.length → Calls Tryz.prog 20 #[.agg #[.int .i64 p, .int .i64 m, .slice A n c], .slice (some ⟨g, 0, none⟩) rows.length rows.length, .slice Ah rows.length ch, .int .i64 cols] W fun e w' => (∃ g, e = .returned (.slice (some ⟨g, 0, none⟩) cols cols) ∧ Row w' W.heap.size g cols (nz (cwO p m md cols rows msg)) ∧ (cwO p m md cols rows msg).length = cols ∧ ∀ x ∈ cwO p m md cols rows msg, x < p ^ m) ∧ Below W.heap.size W w') := fun msg g W hW hr hm hl =>
    (h.lift hW).comb msg _ c _ ch (row_ints hr) hm hl
  obtain ⟨i0, hi0, hz0, hz1, hz2⟩ := info_parts infoInt
  have HI := Lib.hid hi0
  have HZ0 := Lib.hid hz0
  have HZ1 := Lib.hid hz1
  have HB2 := Lib.hid (show i0.bytes * rows.length ≤ 281474976710656 by rw [hz2]; omega)
  have HB3 := Lib.hid (show rows.length ≤ maxLen by unfold maxLen; omega)
  clear h hz hi0 hz0 hz1 hz2
  generalize cwO p m md cols rows = cw at *
  generalize p ^ m = q at *
  generalize rows.length = k at *
  generalize inV (p : Int) (m : Int) = iv at *
  go_enter Tryz.func9, Tryz.ntmps9
  go_upto_region 1 with fail
  have hsz0 : w.heap.size + 1 ≤ (w.alloc (.cells #[.int .i64 (p : Int), .int .i64 (m : Int), .slice A n c, .int .i64 (cols : Int), .slice Ah k ch] 30)).heap.size := by simp
  generalize w.alloc (.cells #[.int .i64 (p : Int), .int .i64 (m : Int), .slice A n c, .int .i64 (cols : Int), .slice Ah k ch] 30) = W0 at *
  have c4 : W0.cell? ⟨w.heap.size, 4, none⟩ = some (.slice Ah k ch) := HX.out.cell rfl
  go_wp2_with (refine wpList_make_full W0 rfl (.tmp 9) (.tmp 9) 23 rfl (w.heap.size + 1) 3 i0 (.int .i64 0) 1 Tryz.underlying23 HI.out HZ0.out HZ1.out .i64 .i64 k k k rfl rfl rfl rfl HB2.out HB3.out hsz0 ?_; intro w1 hown hgr)
  have hb1 := below_of_grown hgr
  have hr1 := Row.of_make hown
  have HS0 : Hid (RelOf w [.int .i64 (p : Int), .int .i64 (m : Int), .slice A n c, .int .i64 (cols : Int), .slice Ah k ch] W0.heap.size k q (.int .i64 ((0 : Nat) : Int)) w1) := ⟨0, List.replicate k 0, Nat.zero_le _, rfl, HX.out.grow hb1, hr1, by simp, fun x hx => by rw [List.mem_replicate] at hx; omega⟩
  clear hown hgr hb1 hr1 HX HI HZ0 HZ1 HB2 HB3 c4
  have HGG : Hid (w.heap.size < W0.heap.size) := hsz0
  clear hsz0
  generalize W0.heap.size = go at *
  clear W0
  go_wp2_with fail
  go_loopw [6] (fun v6 wr => RelOf w [.int .i64 (p : Int), .int .i64 (m : Int), .slice A n c, .int .i64 (cols : Int), .slice Ah k ch] go k q v6 wr) (fun v6 _ => k - (intOf v6).toNat)
  case atStart => exact HS0.out
  case round =>
    obtain ⟨i, l, hik, rfl, hx, hrow, hll, hlq⟩ := hrel
    have HX := Lib.hid hx
    have HR := Lib.hid hrow
    have HLQ := Lib.hid hlq
    clear hx hrow hlq HS0
    by_cases hlt : i < k
    · have k0 : (0 : Int) ≤ (i : Int) := by omega
      have k1 : (i : Int) < (k : Int) := by omega
      by_cases hlz : i < zs.length
      · have k2 : (i : Int) < (zs.length : Int) := by omega
        have hw1 : IntKind.i64.wrap ((i : Int) + 1) = (i : Int) + 1 := IntWalk.i64_in _ (by omega)
        obtain ⟨bz, oz, rfl, hbz, hcz⟩ := (HZ.out.keep HX.out.below).at_ (k := i) hlz
        generalize zs.getD i 0 = x at *
        obtain ⟨y, hy, hyq⟩ := HIN.out x
        have HIC : Hid (∀ W : World, Calls Tryz.prog 19 #[.agg #[.int .i64 p, .int .i64 m, .slice A n c], .int .i64 x] W fun e w' => e = .returned (.int .i64 (y : Int)) ∧ Below W.heap.size W w') := fun W => by rw [← hy]; exact HRI.out x W
        clear hy HRI HIN HC
        generalize zs.length = nzl at *
        have HS : Hid (OSc w [.int .i64 (p : Int), .int .i64 (m : Int), .slice A n c, .int .i64 (cols : Int), .slice Ah k ch] bz oz i x wr.drew) := ⟨HX.out.grow (Below.refl _ _).drew, hcz⟩
        have HR2 := Lib.hid (HR.out.below (Below.refl _ wr).drew HR.out.lt.2)
        go_upto_region 5 with fail
        refine wp_region_mixf 9 9 (OSc w [.int .i64 (p : Int), .int .i64 (m : Int), .slice A n c, .int .i64 (cols : Int), .slice Ah k ch] bz oz i x) [(1, 0), (1, 1), (1, 2), (0, 3), (1, 4), (1, 5), (1, 6), (0, 7), (2, 8)] default (by kernel_rfl) (by kernel_rfl) (fun _ _ d _ _ h => by cases d <;> exact h) HS.out ?_
        generalize wr.drew = Wd at *
        simp only [List.map_cons, List.map_nil, List.getD_cons_zero, List.getD_cons_succ]
        iterate 3
          apply mixf_free rfl
          · intro W
            go_simp
            rfl
          go_simp
        refine mixf_load_mid rfl 27 (.tmp 25) rfl w.heap.size 0 rfl [.int .i64 (p : Int), .int .i64 (m : Int), .slice A n c] _ (fun W hW => hW.1.field) Tryz.underlying27 rfl fieldSize ?_
        go_simp
        iterate 3
          apply mixf_free rfl
          · intro W
            go_simp
            rfl
          go_simp
        apply mixf_val rfl
        · intro W hW
          have z0 := hW.2
          go_simp
          rfl
        go_simp
        apply mixf_call rfl
        · go_simp
          exact ⟨rfl, rfl⟩
        with_reducible refine (HIC.out Wd).mono ?_
        rintro e w2 ⟨rfl, hb2⟩
        have HX2 := Lib.hid (HS.out.1.grow hb2)
        have HR3 := Lib.hid (HR2.out.below hb2 HR2.out.lt.2)
        have hc2 : w2.cell? ⟨bz, oz + i, none⟩ = some (.int .i64 x) := (hb2.cell (p := ⟨bz, oz + i, none⟩) (World.block_lt_of_cell? Wd _ HS.out.2)).trans HS.out.2
        refine ⟨_, rfl, ⟨HX2.out, hc2⟩, ?_⟩
        go_simp
        refine mixf_nil ?_
        show wpList _ _ _ _ _ _
        go_simp
        have f0 := HR3.out.frozen i
        have c0 := HR3.out.cell (j := i) (by rw [nz_len]; omega)
        have HR4 := Lib.hid (HR3.out.set i (y : Int))
        rw [nz_set] at HR4
        have HX4 := Lib.hid (HX2.out.wrote (k := i) HGG.out (.int .i64 (y : Int)))
        have HQ4 : Hid (∀ z ∈ l.set i y, z < q) := fun z hz => (List.mem_or_eq_of_mem_set hz).elim (HLQ.out z) (fun h => h ▸ hyq)
        clear hb2 hc2 HS HR2 HIC HR HX
        go_wp2_with fail
        go_roundw
        case rel => exact ⟨i + 1, l.set i y, by omega, by go_num, HX4.out, HR4.out, by rw [List.length_set]; exact hll, HQ4.out⟩
        case measure => simp [intOf]; omega
      · have k2 : ¬ (i : Int) < (zs.length : Int) := by omega
        have HRG := Lib.hid HX.out.field
        have c3 : wr.cell? ⟨w.heap.size, 3, none⟩ = some (.int .i64 (cols : Int)) := HX.out.cell rfl
        have c4 : wr.cell? ⟨w.heap.size, 4, none⟩ = some (.slice Ah k ch) := HX.out.cell rfl
        have HCC := Lib.hid (HC.out l go wr HX.out.below HR.out HLQ.out hll)
        have HRN := Lib.hid (HR.out.lt)
        clear HC HR HIN HRI HZ
        go_wp2_with (refine wpList_load_mid rfl 27 (.tmp 33) rfl w.heap.size 0 rfl [.int .i64 (p : Int), .int .i64 (m : Int), .slice A n c] _ HRG.out Tryz.underlying27 rfl fieldSize ?_)
        refine HCC.out.mono ?_
        rintro e w3 ⟨⟨g3, rfl, hr3, hl3, _⟩, hb3⟩
        have HB3 := Lib.hid (HX.out.below.trans (hb3.mono HX.out.below.size))
        have HRR := Lib.hid (hr3.base (Nat.le_trans HX.out.below.size hr3.lt.1))
        have HL3 := Lib.hid hl3
        clear hb3 hr3 hl3 HCC
        go_wp2_with fail
        go_ret
        exact ⟨⟨g3, l, rfl, hll, HLQ.out, HRR.out, HL3.out⟩, HB3.out⟩
    · have k1 : ¬ (i : Int) < (k : Int) := by omega
      have HRG := Lib.hid HX.out.field
      have c3 : wr.cell? ⟨w.heap.size, 3, none⟩ = some (.int .i64 (cols : Int)) := HX.out.cell rfl
      have c4 : wr.cell? ⟨w.heap.size, 4, none⟩ = some (.slice Ah k ch) := HX.out.cell rfl
      have HCC := Lib.hid (HC.out l go wr HX.out.below HR.out HLQ.out hll)
      have HRN := Lib.hid (HR.out.lt)
      clear HC HR HIN HRI HZ
      go_wp2_with (refine wpList_load_mid rfl 27 (.tmp 33) rfl w.heap.size 0 rfl [.int .i64 (p : Int), .int .i64 (m : Int), .slice A n c] _ HRG.out Tryz.underlying27 rfl fieldSize ?_)
      refine HCC.out.mono ?_
      rintro e w3 ⟨⟨g3, rfl, hr3, hl3, _⟩, hb3⟩
      have HB3 := Lib.hid (HX.out.below.trans (hb3.mono HX.out.below.size))
      have HRR := Lib.hid (hr3.base (Nat.le_trans HX.out.below.size hr3.lt.1))
      have HL3 := Lib.hid hl3
      clear hb3 hr3 hl3 HCC
      go_wp2_with fail
      go_ret
      exact ⟨⟨g3, l, rfl, hll, HLQ.out, HRR.out, HL3.out⟩, HB3.out⟩
end Go.Proofs.YthiackegnpnmbaaGreat

