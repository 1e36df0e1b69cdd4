/-
  A multiple of a row added to a row in place.
-/
import Derived.Test.YtcfejnnhcdlffaaGreatGa
namespace Go.Proofs.YtcfejnnhcdlffaaGreat
open Go.RowKit Pln

def adK (O : Ops) (v : List Nat) (a : Nat) (u : List Nat) (k : Nat) : List Nat := addRow O (v.take k) a (u.take k) ++ v.drop k
theorem addRow_len (O : Ops) (v : List Nat) (a : Nat) (u : List Nat) (h : v.length = u.length) : (addRow O v a u).length = v.length := by
  unfold addRow
  rw [List.length_zipWith, h, Nat.min_self]
theorem adK_len (O : Ops) (v : List Nat) (a : Nat) (u : List Nat) (k : Nat) (h : v.length = u.length) (hk : k ≤ v.length) : (adK O v a u k).length = v.length := by
  unfold adK
  rw [List.length_append, addRow_len _ _ _ _ (by rw [List.length_take, List.length_take, h]), List.length_take, List.length_drop]
  omega
theorem adK_at (O : Ops) (v : List Nat) (a : Nat) (u : List Nat) (k : Nat) (h : v.length = u.length) (hk : k < v.length) : (adK O v a u k).getD k 0 = v.getD k 0 := by
  unfold adK
  have hl : (addRow O (v.take k) a (u.take k)).length = k := by rw [addRow_len _ _ _ _ (by rw [List.length_take, List.length_take, h]), List.length_take]; omega
  simp only [List.getD]
  rw [List.getElem?_append_right (by omega), hl, Nat.sub_self, List.getElem?_drop, Nat.add_zero]
theorem adK_set (O : Ops) (v : List Nat) (a : Nat) (u : List Nat) (k : Nat) (h : v.length = u.length) (hk : k < v.length) :
    (adK O v a u k).set k (if u.getD k 0 = 0 then v.getD k 0 else O.add (v.getD k 0) (O.mul a (u.getD k 0))) = adK O v a u (k + 1) := by
  unfold adK
  have hl : (addRow O (v.take k) a (u.take k)).length = k := by rw [addRow_len _ _ _ _ (by rw [List.length_take, List.length_take, h]), List.length_take]; omega
  rw [List.set_append_right _ _ (by omega), hl, Nat.sub_self, List.drop_eq_getElem_cons hk, List.set_cons_zero]
  rw [List.take_succ_eq_append_getElem hk, List.take_succ_eq_append_getElem (l := u) (by omega)]
  unfold addRow
  rw [List.zipWith_append (by rw [List.length_take, List.length_take, h])]
  have e1 : v.getD k 0 = v[k] := by simp [List.getD, hk]
  have e2 : u.getD k 0 = u[k] := by simp [List.getD, show k < u.length by omega]
  rw [e1, e2]
  simp
theorem adK_skip (O : Ops) (v : List Nat) (a : Nat) (u : List Nat) (k : Nat) (h : v.length = u.length) (hk : k < v.length) (h0 : u.getD k 0 = 0) : adK O v a u (k + 1) = adK O v a u k := by
  rw [← adK_set O v a u k h hk, if_pos h0, ← adK_at O v a u k h hk]
  apply List.ext_getElem
  · simp
  · intro i h1 h2
    rw [List.getElem_set]
    split
    · rename_i hik
      subst hik
      have hkl : k < (adK O v a u k).length := h2
      simp [List.getD, hkl]
    · rfl
theorem adK_end (O : Ops) (v : List Nat) (a : Nat) (u : List Nat) (h : v.length = u.length) : adK O v a u v.length = addRow O v a u := by
  unfold adK
  rw [List.take_length, List.drop_length, List.append_nil, List.take_of_length_le (by omega)]
def SDrew (wr W : World) : Prop := ∃ n, W = wr.drewN n
def RelAd (w : World) (B gv cv : Nat) (O : Ops) (v : List Nat) (a : Nat) (u : List Nat) (v12 : Value) (wr : World) : Prop :=
  ∃ k : Nat, k ≤ v.length ∧ v12 = .int .i64 k ∧ Row wr B gv cv (nz (adK O v a u k)) ∧ w.grownBy wr (some gv)
theorem grown_trans {w w1 w2 : World} {g : Nat} (h : w.grownBy w1 (some g)) (h' : w1.grownBy w2 (some g)) : w.grownBy w2 (some g) :=
  ⟨h'.os.trans h.os, h'.tape.trans h.tape, h'.output.trans h.output, Nat.le_trans h.size h'.size, fun k hk hne => (h'.block k (Nat.lt_of_lt_of_le hk h.size) hne).trans (h.block k hk hne)⟩
theorem grown_drewN (w : World) (n : Nat) (row : Option Nat) : w.grownBy (w.drewN n) row := ⟨rfl, rfl, rfl, Nat.le_refl _, fun _ _ _ => rfl⟩
theorem grown_set (w : World) (p : Addr) (u : Value) : w.grownBy (w.setCell p u) (some p.block) := ⟨rfl, rfl, rfl, by simp, fun k _ hne => Below.heap_setCell w p u k (fun e => hne (by rw [e]))⟩
theorem below_of_grown_some {w w' : World} {g : Nat} (h : w.grownBy w' (some g)) (hg : g ≤ w.heap.size) : Below g w w' := ⟨h.os, h.tape, h.output, h.size, fun k hk => h.block k (by omega) (fun e => by injection e with e; omega)⟩

set_option maxHeartbeats 1000000 in
set_option maxRecDepth 100000 in
theorem madd_c (a gb p m Bg B gv cv gu cu : Nat) (md l v u : List Nat) (w : World) (hF : FT p m md l) (hG : GFAt w Bg gb p m l (logL l (p ^ m))) (hBg : Bg ≤ gv) (ha : a < p ^ m) (hv : ∀ x ∈ v, x < p ^ m) (hu : ∀ x ∈ u, x < p ^ m)
    (hrv : Row w B gv cv (nz v)) (hru : Row w B gu cu (nz u)) (hne : gu ≠ gv) (hlen : v.length = u.length) (hl : v.length ≤ 1000) :
    Calls Tryz.prog 197 #[.pointer (some ⟨gb, 0, none⟩), .slice (some ⟨gv, 0, none⟩) v.length cv, .int .i64 a, .slice (some ⟨gu, 0, none⟩) v.length cu] w fun e w' => e = .returned (.tuple #[]) ∧ Row w' B gv cv (nz (addRow (opsT p m l) v a u)) ∧ w.grownBy w' (some gv) := by
  have hgvs := hrv.lt.2
  have HC : Hid (∀ x W, x < p ^ m → w.grownBy W (some gv) → Calls Tryz.prog 143 #[.pointer (some ⟨gb, 0, none⟩), .int .i64 (a : Int), .int .i64 (x : Int)] W (Quiet (.int .i64 (((opsT p m l).mul a x : Nat) : Int)) W)) :=
    fun x W hx hb => mul_c a x gb p m Bg md l W hF (hG.keep ((below_of_grown_some hb (Nat.le_of_lt hgvs)).mono hBg)) ha hx
  have HD : Hid (∀ x y W, x < p ^ m → y < p ^ m → w.grownBy W (some gv) → Calls Tryz.prog 144 #[.pointer (some ⟨gb, 0, none⟩), .int .i64 (x : Int), .int .i64 (y : Int)] W (Quiet (.int .i64 (((opsT p m l).add x y : Nat) : Int)) W)) :=
    fun x y W hx hy hb => add_c x y gb p m Bg l _ W hF.small (hG.keep ((below_of_grown_some hb (Nat.le_of_lt hgvs)).mono hBg)) hx hy
  have HML : Hid (∀ x, x < p ^ m → (opsT p m l).mul a x < p ^ m) := fun x hx => mulT_lt hF ha hx
  have HV : Hid (∀ k, k < v.length → v.getD k 0 < p ^ m) := fun k hk => by
    have : v.getD k 0 = v[k] := by simp [List.getD, hk]
    rw [this]
    exact hv _ (List.getElem_mem hk)
  have HU : Hid (∀ k, k < v.length → u.getD k 0 < p ^ m) := fun k hk => by
    have hk2 : k < u.length := by omega
    have : u.getD k 0 = u[k] := by simp [List.getD, hk2]
    rw [this]
    exact hu _ (List.getElem_mem hk2)
  have HRU := Lib.hid hru
  have HS : Hid (RelAd w B gv cv (opsT p m l) v a u (.int .i64 ((0 : Nat) : Int)) w) := ⟨0, by omega, rfl, by simpa [adK, addRow] using hrv, World.grownBy.refl _ _⟩
  have HLEN := Lib.hid hlen
  clear hF hG hv hu hrv hru hlen
  generalize opsT p m l = O at *
  generalize p ^ m = q at *
  go_enter Tryz.func197, Tryz.ntmps197
  go_wp2_with fail
  go_loopw [12] (fun v12 wr => RelAd w B gv cv O v a u v12 wr) (fun v12 _ => v.length - (intOf v12).toNat)
  case atStart => exact HS.out
  case round =>
    obtain ⟨k, hk, rfl, hrow, hgr⟩ := hrel
    have HR := Lib.hid hrow
    have HG := Lib.hid hgr
    clear hrow hgr HS
    by_cases hlt : k < v.length
    · have HRU2 := Lib.hid (HRU.out.grown HG.out (by simp; exact hne))
      have y0 : wr.cell? ⟨gu, k, none⟩ = some (.int .i64 ((u.getD k 0 : Nat) : Int)) := by rw [← nz_getD]; exact HRU2.out.cell (by rw [nz_len, ← HLEN.out]; exact hlt)
      have y1 : wr.cell? ⟨gv, k, none⟩ = some (.int .i64 ((v.getD k 0 : Nat) : Int)) := by rw [← adK_at O v a u k HLEN.out hlt, ← nz_getD]; exact HR.out.cell (by rw [nz_len, adK_len O v a u k HLEN.out hk]; exact hlt)
      have f1 := HR.out.frozen k
      have HSET := Lib.hid (adK_set O v a u k HLEN.out hlt)
      have HSKIP := Lib.hid (adK_skip O v a u k HLEN.out hlt)
      have hxq := HU.out k hlt
      have hvq := HV.out k hlt
      have k0 : (0 : Int) ≤ (k : Int) := by omega
      have k1 : (k : Int) < (v.length : Int) := by omega
      clear HRU2
      by_cases h0 : u.getD k 0 = 0
      · have HE := Lib.hid (HSKIP.out h0)
        rw [h0] at y0
        clear HSET HSKIP h0
        go_wp2_with fail
        go_roundw
        case rel => exact ⟨k + 1, by omega, by go_num, by rw [HE.out]; exact HR.out, HG.out⟩
        case measure => simp [intOf]; omega
      · rw [if_neg h0] at HSET
        clear HSKIP
        generalize u.getD k 0 = x at *
        generalize v.getD k 0 = y at *
        have hx0 : ((x : Int) != 0) = true := by simpa using h0
        have hx1 : ¬ (x : Int) = 0 := by omega
        have HM : Hid (∀ W, SDrew wr W → Calls Tryz.prog 143 #[.pointer (some ⟨gb, 0, none⟩), .int .i64 (a : Int), .int .i64 (x : Int)] W fun e w' => e = .returned (.int .i64 ((O.mul a x : Nat) : Int)) ∧ SDrew wr w') := fun W ⟨n, hW⟩ => by
          subst hW
          refine (HC.out x _ hxq (grown_trans HG.out (grown_drewN wr n _))).mono ?_
          rintro e w' ⟨he, k, rfl⟩
          exact ⟨he, n + k, by rw [World.drewN_drewN]⟩
        have HMQ := HML.out x hxq
        have HAD : Hid (∀ W, SDrew wr W → Calls Tryz.prog 144 #[.pointer (some ⟨gb, 0, none⟩), .int .i64 (y : Int), .int .i64 ((O.mul a x : Nat) : Int)] W fun e w' => e = .returned (.int .i64 ((O.add y (O.mul a x) : Nat) : Int)) ∧ SDrew wr w') := fun W ⟨n, hW⟩ => by
          subst hW
          refine (HD.out y _ _ hvq HMQ (grown_trans HG.out (grown_drewN wr n _))).mono ?_
          rintro e w' ⟨he, k, rfl⟩
          exact ⟨he, n + k, by rw [World.drewN_drewN]⟩
        clear hx1
        go_upto_region 4 with fail
        refine wp_region_keep_tail 13 (SDrew wr) (by kernel_rfl) (by kernel_rfl) ⟨1, rfl⟩ ?_
        simp only [List.take_succ_cons, List.take_zero, List.drop_succ_cons, List.drop_zero]
        repeat (first
          | (apply keep_val rfl
             · intro W hS
               obtain ⟨n, rfl⟩ := hS
               go_simp
               rfl
             go_simp)
          | (apply keep_call rfl
             · intro W hS
               go_simp
               exact ⟨rfl, rfl⟩
             · intro W hS
               first
                 | exact HM.out W hS
                 | exact HAD.out W hS
             go_simp))
        refine wpKeep_nil ?_
        intro w2 hS2
        obtain ⟨n, rfl⟩ := hS2
        generalize O.add y (O.mul a x) = z at *
        go_wp2_with fail
        go_roundw
        case rel =>
          refine ⟨k + 1, by omega, by go_num, ?_, grown_trans (grown_trans HG.out (grown_drewN wr n _)) (grown_set _ ⟨gv, k, none⟩ _)⟩
          rw [← HSET.out, ← nz_set]
          exact Row.set (w := wr.drewN n) HR.out k _
        case measure => simp [intOf]; omega
    · obtain rfl : k = v.length := by omega
      go_wp2_with fail
      go_end0
      refine ⟨rfl, ?_, HG.out⟩
      rw [← adK_end O v a u HLEN.out]
      exact HR.out
#print axioms madd_c
end Go.Proofs.YtcfejnnhcdlffaaGreat
