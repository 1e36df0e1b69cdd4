/-
  Rows of field elements: scaled, copied, added in place.
-/
import Derived.Test.YtcfejnnhcdlffaaGreatFjM
namespace Go.Proofs.YtcfejnnhcdlffaaGreat
open Go.RowKit Pln

/-- The operations of a field with tables. -/
def opsT (p m : Nat) (l : List Nat) : Ops := ⟨addD p m, mulT l (logL l (p ^ m)) (p ^ m), negD p m, invT l (logL l (p ^ m)) (p ^ m)⟩
theorem mulT_lt {p m : Nat} {md l : List Nat} (h : FT p m md l) {x y : Nat} (hx : x < p ^ m) (hy : y < p ^ m) : mulT l (logL l (p ^ m)) (p ^ m) x y < p ^ m := by
  have H := mulM_mon (p := p) (m := m) (by have := h.small.p1; omega) h.small.m1 md
  rw [h.tab.mul_eq H hx hy]
  exact H.lt x y
def scK (f : Nat → Nat) (v : List Nat) (k : Nat) : List Nat := (v.take k).map f ++ List.replicate (v.length - k) 0
theorem scK_len (f : Nat → Nat) (v : List Nat) (k : Nat) (hk : k ≤ v.length) : (scK f v k).length = v.length := by simp [scK]; omega
theorem scK_set (f : Nat → Nat) (v : List Nat) (k : Nat) (hk : k < v.length) : (scK f v k).set k (f (v.getD k 0)) = scK f v (k + 1) := by
  unfold scK
  have hl : ((v.take k).map f).length = k := by simp; omega
  rw [List.set_append_right _ _ (by omega), hl, Nat.sub_self, show v.length - k = (v.length - (k + 1)) + 1 by omega, List.replicate_succ, List.set_cons_zero, List.take_succ_eq_append_getElem hk, List.map_append, List.append_assoc]
  simp [List.getD, hk]
def RelSc (w : World) (f : Nat → Nat) (v : List Nat) (v15 : Value) (wr : World) : Prop :=
  ∃ k : Nat, k ≤ v.length ∧ v15 = .int .i64 k ∧ Row wr w.heap.size w.heap.size v.length (nz (scK f v k)) ∧ Below w.heap.size w wr

set_option maxHeartbeats 1000000 in
set_option maxRecDepth 100000 in
theorem scale_c (a gb p m : Nat) (md l v : List Nat) (A : Option Addr) (c : Nat) (w : World) (hF : FT p m md l) (hG : GFAt w w.heap.size gb p m l (logL l (p ^ m))) (ha : a < p ^ m) (hv : ∀ x ∈ v, x < p ^ m) (hA : IntsAt w w.heap.size A (nz v)) (hl : v.length ≤ 1000) :
    Calls Tryz.prog 85 #[.pointer (some ⟨gb, 0, none⟩), .int .i64 a, .slice A v.length c] w fun e w' => e = .returned (.slice (some ⟨w.heap.size, 0, none⟩) v.length v.length) ∧ Row w' w.heap.size w.heap.size v.length (nz (scaleRow (opsT p m l) a v)) ∧ Below w.heap.size w w' := by
  obtain ⟨i0, hi, hz0, hz1, hz2⟩ := info_parts infoInt
  have HI := Lib.hid hi
  have HZ0 := Lib.hid hz0
  have HZ1 := Lib.hid hz1
  have HB2 := Lib.hid (show i0.bytes * v.length ≤ 281474976710656 by rw [hz2]; omega)
  have HB3 := Lib.hid (show v.length ≤ maxLen by unfold maxLen; omega)
  have HA := Lib.hid hA
  have HC : Hid (∀ x W, x < p ^ m → Below w.heap.size w W → Calls Tryz.prog 143 #[.pointer (some ⟨gb, 0, none⟩), .int .i64 (a : Int), .int .i64 (x : Int)] W (Quiet (.int .i64 ((mulT l (logL l (p ^ m)) (p ^ m) a x : Nat) : Int)) W)) :=
    fun x W hx hb => mul_c a x gb p m w.heap.size md l W hF (hG.keep hb) ha hx
  have HV : Hid (∀ k, k < v.length → v.getD k 0 < p ^ m) := fun k hk => by
    have : v.getD k 0 = v[k] := by simp [List.getD, hk]
    rw [this]
    exact hv _ (List.getElem_mem hk)
  have HFE : Hid (scaleRow (opsT p m l) a v = v.map (mulT l (logL l (p ^ m)) (p ^ m) a)) := rfl
  clear hi hz0 hz1 hz2 hA hF hG hv
  generalize mulT l (logL l (p ^ m)) (p ^ m) a = f at *
  generalize p ^ m = q at *
  go_enter Tryz.func85, Tryz.ntmps85
  go_wp2_with (refine wpList_make_full w rfl (.tmp 11) (.tmp 11) 22 rfl w.heap.size 3 i0 (.int .i64 0) 1 Tryz.underlying22 HI.out HZ0.out HZ1.out .i64 .i64 v.length v.length v.length rfl rfl rfl rfl HB2.out HB3.out (Nat.le_refl _) ?_; intro w1 hown hgr)
  have HS : Hid (RelSc w f v (.int .i64 ((0 : Nat) : Int)) w1) := ⟨0, by omega, rfl, by have := Row.of_make hown; exact this, below_of_grown hgr⟩
  clear hown hgr
  go_loopw [15] (fun v15 wr => RelSc w f v v15 wr) (fun v15 _ => v.length - (intOf v15).toNat)
  case atStart => exact HS.out
  case round =>
    obtain ⟨k, hk, rfl, hrow, hb⟩ := hrel
    have HR := Lib.hid hrow
    have HB := Lib.hid hb
    clear hrow hb HS
    by_cases hlt : k < v.length
    · obtain ⟨b, o, rfl, hbl, hc⟩ := (HA.out.keep HB.out).at_ (k := k) (by rw [nz_len]; exact hlt)
      rw [nz_getD] at hc
      have hxq := HV.out k hlt
      have HST := Lib.hid (scK_set f v k hlt)
      have f0 := HR.out.frozen k
      have c0 := HR.out.cell (j := k) (by rw [nz_len, scK_len f v k hk]; exact hlt)
      generalize v.getD k 0 = x at *
      go_wp2_with fail
      (with_reducible refine (HC.out x wr hxq HB.out).mono ?_)
      rintro e w2 ⟨rfl, n, rfl⟩
      go_wp2_with fail
      go_roundw
      case rel =>
        refine ⟨k + 1, by omega, by go_num, ?_, (below_drewN HB.out n).setCell (p := ⟨w.heap.size, k, none⟩) (Nat.le_refl _) _⟩
        rw [← HST.out, ← nz_set]
        exact Row.set (w := wr.drewN n) HR.out k _
      case measure => simp [intOf]; omega
    · obtain rfl : k = v.length := by omega
      go_wp2_with fail
      go_ret
      refine ⟨rfl, ?_, HB.out⟩
      have := HR.out
      unfold scK at this
      rw [Nat.sub_self, List.replicate_zero, List.append_nil, List.take_length] at this
      rw [HFE.out]
      exact this
#print axioms scale_c

set_option maxHeartbeats 1000000 in
set_option maxRecDepth 100000 in
theorem sclone_c (zs : List Int) (A : Option Addr) (c : Nat) (w : World) (hA : IntsAt w w.heap.size A zs) (h0 : 0 < zs.length) (hl : zs.length ≤ 1000000) :
    Calls Tryz.prog 84 #[.slice A zs.length c] w fun e w' => (∃ g c', e = .returned (.slice (some ⟨g, 0, none⟩) zs.length c') ∧ Row w' w.heap.size g c' zs) ∧ Below w.heap.size w w' := by
  obtain ⟨i0, hi, hz0, hz1, hz2⟩ := info_parts infoInt
  obtain ⟨b, o, rfl, hbl, hc⟩ := hA h0
  have HI := Lib.hid hi
  have HZ0 := Lib.hid hz0
  have HZ1 := Lib.hid hz1
  have HZ2 := Lib.hid hz2
  have HOE : Hid ((w.alloc (.cells #[] 3)).ownsRow w.heap.size 3 1 (.slice (some ⟨w.heap.size, 0, none⟩) 0 0) 0 []) := World.ownsRow_made w #[] 0 (Nat.le_refl _) (by unfold maxLen; omega) rfl
  have HNEW : Hid (∀ (j : Nat) (u : Value), (zs.map (Value.int .i64))[j]? = some u → (w.alloc (.cells #[] 3)).cell? ((⟨b, o, none⟩ : Addr).add j) = some u) := (hA.keep ((Below.refl _ _).alloc (Nat.le_refl _) _)).news
  clear hi hz0 hz1 hz2 hA hc
  have hen : ∀ (W : World) (a : Option Addr) (n c n' c' : Nat), (binOp .eql 22 (.slice a n c) (.slice none n' c')).run Tryz.prog W = .ok (.bool a.isNone) W := fun W a n c n' c' => Lib.run_eql_slice_nil W 22 3 a n c n' c' Tryz.underlying22
  go_enter Tryz.func84, Tryz.ntmps84
  go_wp2_with (at_builtin; refine wpList_append_lies _ rfl (.tmp 5) (.tmp 6) 22 rfl w.heap.size 3 i0 _ 1 8 Tryz.underlying22 HI.out HZ0.out HZ1.out HZ2.out rfl (by decide) (.slice (some ⟨w.heap.size, 0, none⟩) 0 0) 0 [] rfl HOE.out ⟨b, o, none⟩ zs.length c (zs.map (Value.int .i64)) rfl ?c0 HNEW.out ?c2 h0 ?c3 ?c4 ?c5 _ rfl ?_)
  case c0 => simp
  case c2 => intro u hu; obtain ⟨z, _, rfl⟩ := List.mem_map.1 hu; rfl
  case c3 => unfold maxLen; omega
  case c4 => omega
  case c5 => simp
  intro g cap w1 hown hgr hat hlt
  have HR : Hid (Row w1 w.heap.size g cap zs) := by
    show w1.ownsRow _ _ _ _ _ _
    exact hown
  have HB : Hid (Below w.heap.size w w1) := ((Below.refl _ _).alloc (Nat.le_refl _) _).grown hgr (by simp) (fun k hk => by simp [Value.ownBlock] at hk; omega)
  clear hown hgr hat hlt hen
  go_wp2_with fail
  go_ret
  exact ⟨⟨g, cap, rfl, HR.out⟩, HB.out⟩
#print axioms sclone_c
end Go.Proofs.YtcfejnnhcdlffaaGreat
