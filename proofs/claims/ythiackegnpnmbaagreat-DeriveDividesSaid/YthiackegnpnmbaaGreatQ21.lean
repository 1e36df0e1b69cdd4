/-
  Plain: messages by their numbers; the least weight bounds all words. Plain: the fields of 2 and 3 elements: their operations are those of numbers modulo 2 and 3; combinations, products of rows. GF.Dot.
-/
import Derived.Test.YthiackegnpnmbaaGreatQ20
import Derived.Test.YthiackegnpnmbaaGreatQ11
namespace Go.Proofs.YthiackegnpnmbaaGreat
namespace Dv

/-- The k digits of n, the last one first reckoned. -/
def digsBE (q : Nat) : Nat → Nat → List Nat
  | 0, _ => []
  | k + 1, n => digsBE q k (n / q) ++ [n % q]
theorem digsBE_len (q : Nat) : ∀ k n, (digsBE q k n).length = k
  | 0, _ => rfl
  | k + 1, n => by unfold digsBE; rw [List.length_append, digsBE_len q k]; rfl
theorem digsBE_lt {q : Nat} (hq : 0 < q) : ∀ k n, ∀ x ∈ digsBE q k n, x < q
  | 0, _, x, h => by simp [digsBE] at h
  | k + 1, n, x, h => by
    unfold digsBE at h
    rcases List.mem_append.1 h with h | h
    · exact digsBE_lt hq k _ x h
    · simp at h
      rw [h]
      exact Nat.mod_lt _ hq
/-- Every message has a number; the number 0 is the zero message's. -/
theorem index_of {q : Nat} (hq : 0 < q) : ∀ (k : Nat) (msg : List Nat), msg.length = k → (∀ x ∈ msg, x < q) → ∃ n, n < q ^ k ∧ digsBE q k n = msg ∧ (n = 0 → ∀ x ∈ msg, x = 0)
  | 0, msg, h, _ => by
    rw [List.length_eq_zero_iff.1 h]
    exact ⟨0, by simp, rfl, fun _ x hx => by simp at hx⟩
  | k + 1, msg, h, hm => by
    have hne : msg ≠ [] := fun e => by rw [e] at h; simp at h
    have hs := List.dropLast_concat_getLast hne
    have hl : msg.getLast hne < q := hm _ (List.getLast_mem hne)
    obtain ⟨n, h1, h2, h3⟩ := index_of hq k msg.dropLast (by simp [h]) (fun x hx => hm x (List.dropLast_subset _ hx))
    refine ⟨q * n + msg.getLast hne, ?_, ?_, fun h0 x hx => ?_⟩
    · rw [Nat.pow_succ, Nat.mul_comm (q ^ k)]
      calc q * n + msg.getLast hne < q * n + q := by omega
        _ = q * (n + 1) := by rw [Nat.mul_add, Nat.mul_one]
        _ ≤ q * q ^ k := Nat.mul_le_mul_left _ h1
    · unfold digsBE
      rw [Nat.mul_add_div hq, Nat.div_eq_of_lt hl, Nat.add_zero, Nat.mul_add_mod, Nat.mod_eq_of_lt hl, h2]
      exact hs
    · have hl0 : msg.getLast hne = 0 := by omega
      have hn0 : n = 0 := by
        rcases Nat.eq_zero_or_pos n with h | h
        · exact h
        · have := Nat.mul_pos hq h
          omega
      rw [← hs] at hx
      rcases List.mem_append.1 hx with hx | hx
      · exact h3 hn0 x hx
      · simp at hx
        rw [hx, hl0]
/-- A zero message has the zero word. -/
theorem comb_zero (q : Nat) : ∀ (rows : List (List Nat)) (msg out : List Nat), (∀ x ∈ msg, x = 0) → comb q out msg rows = out
  | [], msg, out, _ => by cases msg <;> rfl
  | r :: rs, [], out, _ => rfl
  | r :: rs, x :: xs, out, h => by
    unfold comb
    rw [if_pos (h x (by simp))]
    exact comb_zero q rs xs out (fun y hy => h y (by simp [hy]))
/-- The least weight among the words with the numbers 1 to n - 1, or more. -/
def leastGo (f : Nat → Nat) : Nat → Nat → Nat → Nat
  | 0, _, out => out
  | g + 1, i, out => leastGo f g (i + 1) (min out (f i))
theorem leastGo_le (f : Nat → Nat) : ∀ g i out, leastGo f g i out ≤ out
  | 0, _, _ => Nat.le_refl _
  | g + 1, i, _ => Nat.le_trans (leastGo_le f g (i + 1) _) (Nat.min_le_left _ _)
theorem leastGo_at (f : Nat → Nat) : ∀ g i out j, i ≤ j → j < i + g → leastGo f g i out ≤ f j
  | 0, i, out, j, h1, h2 => by omega
  | g + 1, i, out, j, h1, h2 => by
    unfold leastGo
    by_cases h : i = j
    · subst h
      exact Nat.le_trans (leastGo_le f g _ _) (Nat.min_le_right _ _)
    · exact leastGo_at f g (i + 1) _ j (by omega) (by omega)
/-- Each nonzero word weighs at least the least weight. -/
theorem least_word {q N : Nat} (hq : 0 < q) (rows : List (List Nat)) (msg : List Nat) (hl : msg.length = rows.length) (hm : ∀ x ∈ msg, x < q) (out : Nat) (hw : wt (comb q (List.replicate N 0) msg rows) ≠ 0) :
    leastGo (fun i => wt (comb q (List.replicate N 0) (digsBE q rows.length i) rows)) (q ^ rows.length - 1) 1 out ≤ wt (comb q (List.replicate N 0) msg rows) := by
  obtain ⟨n, h1, h2, h3⟩ := index_of hq rows.length msg hl hm
  have hn : n ≠ 0 := fun h => hw (by rw [comb_zero q rows msg _ (h3 h), wt_zeros])
  have := leastGo_at (fun i => wt (comb q (List.replicate N 0) (digsBE q rows.length i) rows)) (q ^ rows.length - 1) 1 out n (by omega) (by omega)
  simp only [h2] at this
  exact this
/-- Rounded up to a multiple. -/
theorem round_up {w low m : Nat} (hm : 0 < m) (h1 : w % m = 0) (h2 : low ≤ w) : (low + m - 1) / m * m ≤ w := by
  obtain ⟨k, rfl⟩ : ∃ k, w = m * k := ⟨w / m, by have := Nat.div_add_mod w m; omega⟩
  rw [Nat.mul_comm m k]
  refine Nat.mul_le_mul_right _ ?_
  have : (low + m - 1) / m < k + 1 := by
    rw [Nat.div_lt_iff_lt_mul hm, Nat.add_mul, Nat.one_mul, Nat.mul_comm k m]
    omega
  omega
end Dv
end Go.Proofs.YthiackegnpnmbaaGreat

namespace Go.Proofs.YthiackegnpnmbaaGreat
open Pln
namespace Dv

/-- Operations that are those of numbers modulo p. -/
structure Ar (p : Nat) (O : Ops) : Prop where
  pos : 0 < p
  add : ∀ x y, x < p → y < p → O.add x y = (x + y) % p
  mul : ∀ x y, x < p → y < p → O.mul x y = x * y % p
theorem add23 {p x y : Nat} (h : p = 2 ∨ p = 3) (hx : x < p) (hy : y < p) : addD p 1 x y = (x + y) % p := by
  rcases h with rfl | rfl
  · have h1 : x = 0 ∨ x = 1 := by omega
    have h2 : y = 0 ∨ y = 1 := by omega
    rcases h1 with rfl | rfl <;> rcases h2 with rfl | rfl <;> decide
  · have h1 : x = 0 ∨ x = 1 ∨ x = 2 := by omega
    have h2 : y = 0 ∨ y = 1 ∨ y = 2 := by omega
    rcases h1 with rfl | rfl | rfl <;> rcases h2 with rfl | rfl | rfl <;> decide
theorem mul23 {p x y : Nat} (h : p = 2 ∨ p = 3) (hx : x < p) (hy : y < p) : mulM p 1 [0] x y = x * y % p := by
  rcases h with rfl | rfl
  · have h1 : x = 0 ∨ x = 1 := by omega
    have h2 : y = 0 ∨ y = 1 := by omega
    rcases h1 with rfl | rfl <;> rcases h2 with rfl | rfl <;> decide
  · have h1 : x = 0 ∨ x = 1 ∨ x = 2 := by omega
    have h2 : y = 0 ∨ y = 1 ∨ y = 2 := by omega
    rcases h1 with rfl | rfl | rfl <;> rcases h2 with rfl | rfl | rfl <;> decide
theorem ar_ref {p : Nat} (h : p = 2 ∨ p = 3) : Ar p (refOps p 1 [0]) where
  pos := by omega
  add x y hx hy := add23 h hx hy
  mul x y hx hy := by
    show refMul p 1 [0] x y = _
    rw [refMul_eq (p := p) (m := 1) (md := [0]) (by omega) (by decide) rfl]
    exact mul23 h hx hy
theorem ar_tab {p : Nat} {l : List Nat} (h : p = 2 ∨ p = 3) (hF : FT p 1 [0] l) : Ar p (opsT p 1 l) where
  pos := by omega
  add x y hx hy := add23 h hx hy
  mul x y hx hy := by
    have e := (ops_eq hF rfl).mul x y (by simpa using hx) (by simpa using hy)
    exact e.1.trans ((ar_ref h).mul x y hx hy)
/-- Adding a multiple of a row. -/
theorem addRow_ar {p : Nat} {O : Ops} (h : Ar p O) {a : Nat} (ha : a < p) : ∀ {n : Nat} {u v : List Nat}, Ok p n u → Ok p n v → addRow O u a v = addTo p u a v
  | 0, u, v, hu, hv => by
    rw [ok_nil hu, ok_nil hv]
    rfl
  | n + 1, u, v, hu, hv => by
    obtain ⟨x, r, rfl⟩ := ok_len hu
    obtain ⟨y, s, rfl⟩ := ok_len hv
    rw [Ok.cons] at hu hv
    have ih := addRow_ar h ha hu.2 hv.2
    unfold addRow at ih ⊢
    rw [List.zipWith_cons_cons, ih]
    have e : (if y = 0 then x else O.add x (O.mul a y)) = (x + a * y % p) % p := by
      by_cases hy : y = 0
      · subst hy
        rw [if_pos rfl, Nat.mul_zero, Nat.zero_mod, Nat.add_zero, Nat.mod_eq_of_lt hu.1]
      · rw [if_neg hy, h.mul a y ha hv.1, h.add x _ hu.1 (Nat.mod_lt _ h.pos)]
    rw [e]
    rfl
/-- A combination of rows by the operations. -/
def combO (O : Ops) : List Nat → List Nat → List (List Nat) → List Nat
  | out, x :: xs, r :: rs => combO O (if x = 0 then out else addRow O out x r) xs rs
  | out, _, _ => out
theorem combO_ar {p n : Nat} {O : Ops} (h : Ar p O) : ∀ (rows : List (List Nat)) (msg out : List Nat), (∀ r ∈ rows, Ok p n r) → Ok p n out → (∀ x ∈ msg, x < p) → combO O out msg rows = comb p out msg rows
  | [], msg, out, _, _, _ => by cases msg <;> rfl
  | r :: rs, [], out, _, _, _ => rfl
  | r :: rs, x :: xs, out, hr, ho, hm => by
    unfold combO comb
    by_cases hx : x = 0
    · rw [if_pos hx, if_pos hx]
      exact combO_ar h rs xs out (fun y hy => hr y (by simp [hy])) ho (fun y hy => hm y (by simp [hy]))
    · rw [if_neg hx, if_neg hx, addRow_ar h (hm x (by simp)) ho (hr r (by simp))]
      exact combO_ar h rs xs _ (fun y hy => hr y (by simp [hy])) (addTo_ok h.pos x ho (hr r (by simp))) (fun y hy => hm y (by simp [hy]))
/-- The product of two rows by the operations. -/
def dotO (O : Ops) : Nat → List Nat → List Nat → Nat
  | s, x :: r, y :: t => dotO O (O.add s (O.mul x y)) r t
  | s, _, _ => s
theorem dotO_ar {p : Nat} {O : Ops} (h : Ar p O) : ∀ (u v : List Nat) (s : Nat), (∀ x ∈ u, x < p) → (∀ x ∈ v, x < p) → s < p → dotO O s u v = (s + dot u v) % p
  | [], v, s, _, _, hs => by
    cases v <;> simp [dotO, dot, Nat.mod_eq_of_lt hs]
  | x :: r, [], s, _, _, hs => by simp [dotO, dot, Nat.mod_eq_of_lt hs]
  | x :: r, y :: t, s, hu, hv, hs => by
    unfold dotO dot
    rw [h.mul x y (hu x (by simp)) (hv y (by simp)), h.add s _ hs (Nat.mod_lt _ h.pos)]
    rw [dotO_ar h r t _ (fun z hz => hu z (by simp [hz])) (fun z hz => hv z (by simp [hz])) (Nat.mod_lt _ h.pos)]
    rw [Nat.add_mod, Nat.mod_mod, ← Nat.add_mod, Nat.add_assoc, Nat.add_mod s, Nat.add_mod (x * y % p), Nat.mod_mod, ← Nat.add_mod (x * y), ← Nat.add_mod]
end Dv
end Go.Proofs.YthiackegnpnmbaaGreat

namespace Go.Proofs.YthiackegnpnmbaaGreat
open Go.RowKit Pln

def RelDot (w : World) (q : Nat) (O : Ops) (u v : List Nat) (v7 v14 : Value) (wr : World) : Prop :=
  ∃ k s n : Nat, k ≤ u.length ∧ v7 = .int .i64 s ∧ v14 = .int .i64 k ∧ s < q ∧ Dv.dotO O s (u.drop k) (v.drop k) = Dv.dotO O 0 u v ∧ wr = w.drewN n
theorem dotO_step {O : Ops} {u v : List Nat} {k s r : Nat} (hu : k < u.length) (hv : k < v.length) (h : Dv.dotO O s (u.drop k) (v.drop k) = r) : Dv.dotO O (O.add s (O.mul (u.getD k 0) (v.getD k 0))) (u.drop (k + 1)) (v.drop (k + 1)) = r := by
  rw [List.drop_eq_getElem_cons hu, List.drop_eq_getElem_cons hv] at h
  unfold Dv.dotO at h
  have e1 : u.getD k 0 = u[k] := by simp [List.getD, hu]
  have e2 : v.getD k 0 = v[k] := by simp [List.getD, hv]
  rw [e1, e2]
  exact h

set_option maxHeartbeats 1000000 in
set_option maxRecDepth 100000 in
theorem dot_c (gb p m B : Nat) (md l u v : List Nat) (Au Av : Option Addr) (cu cv : Nat) (w : World) (hF : FT p m md l) (hG : GFAt w B gb p m l (logL l (p ^ m))) (hlen : v.length = u.length) (hu : ∀ x ∈ u, x < p ^ m) (hv : ∀ x ∈ v, x < p ^ m) (hU : IntsAt w B Au (nz u)) (hV : IntsAt w B Av (nz v)) (hl : u.length ≤ 1000) :
    Calls Tryz.prog 138 #[.pointer (some ⟨gb, 0, none⟩), .slice Au u.length cu, .slice Av u.length cv] w (Quiet (.int .i64 ((Dv.dotO (opsT p m l) 0 u v : Nat) : Int)) w) := by
  have hq0 : 0 < p ^ m := by have := hF.small.p1; exact Nat.pow_pos (by omega)
  have HC : Hid (∀ x y n, x < p ^ m → y < p ^ m → Calls Tryz.prog 142 #[.pointer (some ⟨gb, 0, none⟩), .int .i64 (x : Int), .int .i64 (y : Int)] (w.drewN n) (Quiet (.int .i64 (((opsT p m l).mul x y : Nat) : Int)) (w.drewN n))) :=
    fun x y n hx hy => mul_c x y gb p m B md l (w.drewN n) hF hG hx hy
  have HD : Hid (∀ x y n, x < p ^ m → y < p ^ m → Calls Tryz.prog 143 #[.pointer (some ⟨gb, 0, none⟩), .int .i64 (x : Int), .int .i64 (y : Int)] (w.drewN n) (Quiet (.int .i64 (((opsT p m l).add x y : Nat) : Int)) (w.drewN n))) :=
    fun x y n hx hy => add_c x y gb p m B l _ (w.drewN n) hF.small hG hx hy
  have HML : Hid (∀ x y, x < p ^ m → y < p ^ m → (opsT p m l).mul x y < p ^ m) := fun x y hx hy => mulT_lt hF hx hy
  have HAL : Hid (∀ x y, x < p ^ m → y < p ^ m → (opsT p m l).add x y < p ^ m) := fun x y _ _ => addD_lt (by have := hF.small.p1; omega) m x y
  have HVQ : Hid (∀ k, k < u.length → v.getD k 0 < p ^ m) := fun k hk => by
    have hk2 : k < v.length := by omega
    have : v.getD k 0 = v[k] := by simp [List.getD, hk2]
    rw [this]
    exact hv _ (List.getElem_mem hk2)
  have HUQ : Hid (∀ k, k < u.length → u.getD k 0 < p ^ m) := fun k hk => by
    have : u.getD k 0 = u[k] := by simp [List.getD, hk]
    rw [this]
    exact hu _ (List.getElem_mem hk)
  have HU := Lib.hid hU
  have HV := Lib.hid hV
  have HLEN := Lib.hid hlen
  clear hF hG hv hu hU hV hlen
  generalize opsT p m l = O at *
  generalize p ^ m = q at *
  go_enter Tryz.func138, Tryz.ntmps138
  go_wp2_with fail
  go_loopw [7, 14] (fun v7 v14 wr => RelDot w q O u v v7 v14 wr) (fun _ v14 _ => u.length - (intOf v14).toNat)
  case atStart => exact ⟨0, 0, 0, by omega, rfl, rfl, hq0, rfl, rfl⟩
  case round =>
    obtain ⟨k, s, n, hk, rfl, rfl, hs, hinv, rfl⟩ := hrel
    have HINV := Lib.hid hinv
    clear hinv
    by_cases hlt : k < u.length
    · obtain ⟨bu, ou, rfl, hbu, hcu⟩ := HU.out.at_ (k := k) (by rw [nz_len]; exact hlt)
      obtain ⟨bv, ov, rfl, hbv, hcv⟩ := HV.out.at_ (k := k) (by rw [nz_len, HLEN.out]; exact hlt)
      rw [nz_getD] at hcu hcv
      have HST := Lib.hid (dotO_step hlt (by rw [HLEN.out]; exact hlt) HINV.out)
      have hx := HUQ.out k hlt
      have hy := HVQ.out k hlt
      have k0 : (0 : Int) ≤ (k : Int) := by omega
      have k1 : (k : Int) < (u.length : Int) := by omega
      have hw : IntKind.i64.wrap ((k : Int) + 1) = (k : Int) + 1 := IntWalk.i64_in _ (by omega)
      generalize u.getD k 0 = x at *
      generalize v.getD k 0 = y at *
      have HCU : Hid (∀ W, SDrew (w.drewN n) W → W.cell? ⟨bu, ou + k, none⟩ = some (.int .i64 x) ∧ W.cell? ⟨bv, ov + k, none⟩ = some (.int .i64 y)) := fun W ⟨j, hW⟩ => by
        subst hW
        exact ⟨hcu, hcv⟩
      have HM : Hid (∀ W, SDrew (w.drewN n) W → Calls Tryz.prog 142 #[.pointer (some ⟨gb, 0, none⟩), .int .i64 (x : Int), .int .i64 (y : Int)] W fun e w' => e = .returned (.int .i64 ((O.mul x y : Nat) : Int)) ∧ SDrew (w.drewN n) w') := fun W ⟨j, hW⟩ => by
        subst hW
        rw [World.drewN_drewN]
        refine (HC.out x y _ hx hy).mono ?_
        rintro e w' ⟨he, i, rfl⟩
        exact ⟨he, j + i, by rw [World.drewN_drewN, World.drewN_drewN, Nat.add_assoc]⟩
      have hmq := HML.out x y hx hy
      have HAD : Hid (∀ W, SDrew (w.drewN n) W → Calls Tryz.prog 143 #[.pointer (some ⟨gb, 0, none⟩), .int .i64 (s : Int), .int .i64 ((O.mul x y : Nat) : Int)] W fun e w' => e = .returned (.int .i64 ((O.add s (O.mul x y) : Nat) : Int)) ∧ SDrew (w.drewN n) w') := fun W ⟨j, hW⟩ => by
        subst hW
        rw [World.drewN_drewN]
        refine (HD.out s _ _ hs hmq).mono ?_
        rintro e w' ⟨he, i, rfl⟩
        exact ⟨he, j + i, by rw [World.drewN_drewN, World.drewN_drewN, Nat.add_assoc]⟩
      have hsq := HAL.out s _ hs hmq
      clear hcu hcv HC HD HU HV
      go_upto_region 5 with fail
      refine wp_region_keep (SDrew (w.drewN n)) (by kernel_rfl) (by kernel_rfl) ⟨1, rfl⟩ ?_
      repeat (first
        | (apply keep_val rfl
           · intro W hS
             obtain ⟨y0, y1⟩ := HCU.out W hS
             go_simp
             try rfl
           go_simp)
        | (apply keep_call rfl
           · intro W hS
             go_simp
             exact ⟨rfl, rfl⟩
           · intro W hS
             first
               | exact HM.out W hS
               | exact HAD.out W hS
           go_simp))
      refine wpKeep_nil ?_
      intro w2 hS2
      obtain ⟨j, rfl⟩ := hS2
      rw [World.drewN_drewN]
      go_wp2_with fail
      go_roundw
      case rel => exact ⟨k + 1, _, _, by omega, rfl, by go_num, hsq, HST.out, rfl⟩
      case measure => simp [intOf]; omega
    · obtain rfl : k = u.length := by omega
      have HE : Hid (Dv.dotO O 0 u v = s) := by
        show _ = _
        have := HINV.out
        rw [List.drop_length] at this
        rw [← this]
        rfl
      go_wp2_with fail
      go_ret
      exact ⟨ret_int (by rw [HE.out]), n, rfl⟩
end Go.Proofs.YthiackegnpnmbaaGreat

