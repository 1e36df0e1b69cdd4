/-
  slices.IndexFunc, slices.ContainsFunc at 'not zero'; derive.itself at the distribution of the code of 000 and 111. matrix.canon with its pivots; matrix.Kernel where nothing is wrong.
-/
import Derived.Test.YthiackegnpnmbaaGreatQ39
import Derived.Test.YthiackegnpnmbaaGreatQ26
namespace Go.Proofs.YthiackegnpnmbaaGreat
open Go.RowKit Pln

/-- The first place at which a value other than zero stands. -/
def nzIx : List Nat → Nat → Int
  | [], _ => -1
  | x :: r, k => if x = 0 then nzIx r (k + 1) else k
theorem nzIx_step {v : List Nat} {k : Nat} (hk : k < v.length) : nzIx (v.drop k) k = if v.getD k 0 = 0 then nzIx (v.drop (k + 1)) (k + 1) else (k : Int) := by
  rw [List.drop_eq_getElem_cons hk]
  have : v.getD k 0 = v[k] := by simp [List.getD, hk]
  rw [this]
  rfl
def RelNx (v : List Nat) (w : World) (r : Int) (v8 : Value) (wr : World) : Prop := ∃ k : Nat, k ≤ v.length ∧ v8 = .int .i64 k ∧ nzIx (v.drop k) k = r ∧ wr = w
set_option maxHeartbeats 1000000 in
set_option maxRecDepth 100000 in
theorem indexnz_c (f : Nat) (hf : ∀ (x : Int) (W : World), Calls Tryz.prog f #[.int .i64 x] W fun e w' => e = .returned (.bool (x != 0)) ∧ W = w') (he : ∀ (args : Array Value) (W : World), (callFunc f args).run Tryz.prog W = .ok (.enter f args) W)
    (v : List Nat) (A : Option Addr) (c : Nat) (w : World) (hA : IntsAt w w.heap.size A (nz v)) (hl : v.length ≤ 1000) :
    Calls Tryz.prog 99 #[.slice A v.length c, .func (.func f) #[] #[]] w fun e w' => e = .returned (.int .i64 (nzIx v 0)) ∧ w = w' := by
  have HA := Lib.hid hA
  have HF := Lib.hid hf
  have HR0 : Hid (RelNx v w (nzIx v 0) (.int .i64 ((0 : Nat) : Int)) w) := ⟨0, by omega, rfl, rfl, rfl⟩
  clear hA hf
  generalize nzIx v 0 = r at *
  go_enter Tryz.func99, Tryz.ntmps99
  go_wp2_with fail
  go_loopw [8] (fun v8 wr => RelNx v w r v8 wr) (fun v8 _ => v.length - (intOf v8).toNat)
  case atStart => exact HR0.out
  case round =>
    obtain ⟨k, hk, rfl, hr, rfl⟩ := hrel
    clear HR0
    by_cases hlt : k < v.length
    · obtain ⟨b, o, rfl, hb, hc⟩ := HA.out.at_ (k := k) (by rw [nz_len]; exact hlt)
      rw [nz_getD] at hc
      have k0 : (0 : Int) ≤ (k : Int) := by omega
      have k1 : (k : Int) < (v.length : Int) := by omega
      have hw1 : IntKind.i64.wrap ((k : Int) + 1) = (k : Int) + 1 := IntWalk.i64_in _ (by omega)
      have HST : Hid ((if v.getD k 0 = 0 then nzIx (v.drop (k + 1)) (k + 1) else (k : Int)) = r) := by rw [← nzIx_step hlt]; exact hr
      clear hr
      generalize v.getD k 0 = x at *
      have HC := Lib.hid (HF.out (x : Int) wr)
      go_wp2_with fail
      refine HC.out.mono ?_
      rintro e w' ⟨rfl, rfl⟩
      by_cases hx : x = 0
      · rw [if_pos hx] at HST
        subst hx
        go_wp2_with fail
        go_roundw
        case rel => exact ⟨k + 1, by omega, by go_num, HST.out, rfl⟩
        case measure => simp [intOf]; omega
      · rw [if_neg hx] at HST
        have hxb : ((x : Int) != 0) = true := by rw [bne_iff_ne]; omega
        go_wp2_with fail
        go_ret
        have e := HST.out
        exact ⟨by rw [← e]; rfl, rfl⟩
    · obtain rfl : k = v.length := by omega
      have HST : Hid ((-1 : Int) = r) := by
        rw [List.drop_eq_nil_of_le (Nat.le_refl _)] at hr
        exact hr
      clear hr
      go_wp2_with fail
      go_ret
      have e := HST.out
      exact ⟨by rw [← e]; rfl, rfl⟩
set_option maxRecDepth 100000 in
theorem itself1_c (x : Int) (W : World) : Calls Tryz.prog 56 #[.int .i64 x] W fun e w' => e = .returned (.bool (x != 0)) ∧ W = w' := by
  go_enter Tryz.func56, Tryz.ntmps56
  go_wp2_with fail
  go_ret
  exact ⟨rfl, rfl⟩
set_option maxRecDepth 100000 in
theorem columns1_c (x : Int) (W : World) : Calls Tryz.prog 100 #[.int .i64 x] W fun e w' => e = .returned (.bool (x != 0)) ∧ W = w' := by
  go_enter Tryz.func100, Tryz.ntmps100
  go_wp2_with fail
  go_ret
  exact ⟨rfl, rfl⟩
set_option maxHeartbeats 1000000 in
set_option maxRecDepth 100000 in
theorem containsnz_c (v : List Nat) (A : Option Addr) (c : Nat) (w : World) (hA : IntsAt w w.heap.size A (nz v)) (hl : v.length ≤ 1000) :
    Calls Tryz.prog 55 #[.slice A v.length c, .func (.func 56) #[] #[]] w fun e w' => e = .returned (.bool (decide (0 ≤ nzIx v 0))) ∧ w = w' := by
  have HC := Lib.hid (indexnz_c 56 itself1_c (enters_of Tryz.func56 (by kernel_rfl) rfl) v A c w hA hl)
  clear hA
  generalize nzIx v 0 = r at *
  go_enter Tryz.func55, Tryz.ntmps55
  go_wp2_with fail
  refine HC.out.mono ?_
  rintro e w' ⟨rfl, rfl⟩
  go_wp2_with fail
  go_ret
  exact ⟨rfl, rfl⟩
theorem rep_code {r low : Int} {G : Nat} {w W : World} (h : SB w w.heap.size (repC r low G) W) : W.rangeAt w.heap.size 1 [.int .i64 2, .int .i64 1, .slice none 0 0, .int .i64 3, .slice (some ⟨G, 0, none⟩) 1 1] :=
  h.sub 1 _ fun j hj => by
    have hj5 : j < 5 := hj
    match j, hj5 with
    | 0, _ => rfl
    | 1, _ => rfl
    | 2, _ => rfl
    | 3, _ => rfl
    | 4, _ => rfl
set_option maxHeartbeats 4000000 in
set_option maxRecDepth 100000 in
theorem itself_15 (G R ro cr : Nat) (w : World) (hG1 : w.cell? ⟨G, 0, none⟩ = some (.slice (some ⟨R, ro, none⟩) 3 cr)) (hG2 : ∀ j, j < 3 → w.cell? ⟨R, ro + j, none⟩ = some (.int .i64 1)) :
    Calls Tryz.prog 28 #[.agg (repC 15 4 G).toArray] w (BPost false w) := by
  have HX := Lib.hid (sb_new w (repC 15 4 G))
  have HG1 := Lib.hid hG1
  have HG2 := Lib.hid hG2
  clear hG1 hG2
  go_enter Tryz.func28, Tryz.ntmps28
  go_upto_region 1 with fail
  generalize w.alloc (.cells (repC 15 4 G).toArray 38) = W0 at *
  have y0 : W0.cell? ⟨w.heap.size, 0, none⟩ = some (.int .i64 15) := HX.out.cell rfl
  have HRC : Hid (W0.rangeAt w.heap.size 1 [.int .i64 2, .int .i64 1, .slice none 0 0, .int .i64 3, .slice (some ⟨G, 0, none⟩) 1 1]) := rep_code HX.out
  have l1 := World.block_lt_of_cell? w _ HG1.out
  have l2 := World.block_lt_of_cell? w _ (HG2.out 0 (by omega))
  simp only at l1 l2
  have HW := Lib.hid (eweights_c G R ro cr W0 ((HX.out.2.1.cell (p := ⟨G, 0, none⟩) l1).trans HG1.out) (fun j hj => (HX.out.2.1.cell (p := ⟨R, ro + j, none⟩) l2).trans (HG2.out j hj)))
  go_wp2_with (refine wpList_load_mid rfl 30 (.tmp 113) rfl w.heap.size 1 rfl [.int .i64 2, .int .i64 1, .slice none 0 0, .int .i64 3, .slice (some ⟨G, 0, none⟩) 1 1] _ HRC.out Tryz.underlying30 rfl codeSize ?_)
  refine HW.out.mono ?_
  rintro e w1 ⟨g, rfl, hI, hb⟩
  have HX1 := Lib.hid (HX.out.grow hb)
  have HI := Lib.hid hI
  clear hb hI HW HRC y0 HX
  have y6 : w1.cell? ⟨w.heap.size, 6, none⟩ = some (.int .i64 4) := HX1.out.cell rfl
  have HC : Hid (Calls Tryz.prog 55 #[.slice (some ⟨g, 1, none⟩) 3 3, .func (.func 56) #[] #[]] w1 fun e w' => e = .returned (.bool (decide (0 ≤ nzIx [0, 0, 1] 0))) ∧ w1 = w') := containsnz_c [0, 0, 1] (some ⟨g, 1, none⟩) 3 w1 (fun _ => by
    obtain ⟨b, o, he, hb, hj⟩ := HI.out (by rw [nz_len]; decide)
    injection he with he
    injection he with e1 e2
    subst e1
    subst e2
    refine ⟨g, 1, rfl, hb, fun j hj3 => ?_⟩
    have hj3' : j < 3 := hj3
    match j, hj3' with
    | 0, _ => exact hj 1 (by rw [nz_len]; decide)
    | 1, _ => exact hj 2 (by rw [nz_len]; decide)
    | 2, _ => exact hj 3 (by rw [nz_len]; decide)) (by simp)
  go_wp2_with fail
  refine HC.out.mono ?_
  rintro e w' ⟨rfl, rfl⟩
  have hd : decide (0 ≤ nzIx [0, 0, 1] 0) = true := rfl
  rw [hd]
  clear hd HC
  go_wp2_with fail
  go_ret
  exact ⟨rfl, HX1.out.2.1⟩
end Go.Proofs.YthiackegnpnmbaaGreat

namespace Go.Proofs.YthiackegnpnmbaaGreat
open Go.RowKit Pln

theorem ints_of_own {w : World} {B n ck : Nat} {VA : Option Addr} {l : List Nat} (h : w.ownsRow B 3 1 (.slice VA n ck) n ((nz l).map (Value.int .i64))) (hn : l.length = n) : IntsUp w B VA (nz l) := fun hz => by
  rw [nz_len] at hz
  obtain ⟨VA', ck', e, hR⟩ := own_slice' h
  injection e with e1 e2 e3
  subst e1
  obtain ⟨R, rfl⟩ := hR (by omega)
  have hlt := World.ownsRow.lt h R rfl
  refine ⟨R, 0, rfl, hlt.1, hlt.2, fun j hj => ?_⟩
  rw [nz_len] at hj
  rw [Nat.zero_add, World.ownsRow.cellAt h j (by omega)]
  have hj' : j < (nz l).length := by rw [nz_len]; exact hj
  simp [List.getD, hj']
theorem elGo_piv_lt (O : Ops) (rows : List (List Nat)) : ∀ c, ∀ x ∈ (elGo O rows c).piv, x < c
  | 0, x, hx => by simp [elGo] at hx
  | c + 1, x, hx => by
    have ih := elGo_piv_lt O rows c
    unfold elGo elStep at hx
    split at hx
    · split at hx
      · have := ih x hx; omega
      · rcases List.mem_append.1 hx with h | h
        · have := ih x h; omega
        · have : x = c := by simpa using h
          omega
    · have := ih x hx; omega

set_option maxHeartbeats 1000000 in
set_option maxRecDepth 100000 in
theorem canon2_c (gb Bg p m cols : Nat) (md l : List Nat) (rows : List (List Nat)) (A : Option Addr) (c : Nat) (w : World) (hF : FT p m md l) (hG : GFAt w Bg gb p m l (logL l (p ^ m))) (hBg : Bg ≤ w.heap.size) (hA : RowsAt w w.heap.size A (nzs rows))
    (hgr : Grid (p ^ m) rows.length cols rows) (h1 : 1 ≤ cols) (hc : cols ≤ 256) (hn : rows.length ≤ 256) :
    Calls Tryz.prog 194 #[.pointer (some ⟨gb, 0, none⟩), .slice A rows.length c, .int .i64 cols] w fun e w' => (∃ (R : Nat) (VA : Option Addr) (ck : Nat), e = .returned (.tuple #[.slice (some ⟨R, 0, none⟩) (canonM (opsT p m l) rows cols).length (canonM (opsT p m l) rows cols).length, .slice VA (canonM (opsT p m l) rows cols).length ck]) ∧ RowsUp w' w.heap.size (some ⟨R, 0, none⟩) (nzs (canonM (opsT p m l) rows cols)) ∧ IntsUp w' w.heap.size VA (nz (elGo (opsT p m l) rows cols).piv)) ∧ Below w.heap.size w w' := by
  have HC1 := Lib.hid (clone_c rows A c w hA (fun r hr => by have := (hgr.2 r hr).1; omega) (by omega))
  have HC2 : Hid (∀ (bs : List (Nat × Nat)) (w1 : World), Below w.heap.size w w1 → GridAt w1 w.heap.size w.heap.size rows.length rows bs → Calls Tryz.prog 232 #[.pointer (some ⟨gb, 0, none⟩), .slice (some ⟨w.heap.size, 0, none⟩) rows.length rows.length, .int .i64 cols, .slice none 0 0] w1 (ElPost w1 w.heap.size w.heap.size rows.length p m l rows cols)) :=
    fun bs w1 hb hg => eliminate_c w.heap.size w.heap.size rows.length gb Bg p m cols md l rows bs w1 hF (hG.keep (hb.mono hBg)) hBg hb.size hg hgr hn hc
  have HK := Lib.hid (canonM_len (opsT p m l) rows cols)
  have HK2 := Lib.hid (elGo_piv (O := opsT p m l) rows cols)
  have HRL := Lib.hid (elGo_len (O := opsT p m l) rows cols)
  have HGD := Lib.hid (canonM_getD (opsT p m l) rows cols)
  clear hF hG hA hgr
  generalize canonM (opsT p m l) rows cols = cm at *
  go_enter Tryz.func194, Tryz.ntmps194
  go_wp2_with fail
  (with_reducible refine HC1.out.mono ?_)
  rintro e w1 ⟨rfl, ⟨bs, hg⟩, hb⟩
  have HG := Lib.hid hg
  have HB := Lib.hid hb
  clear hg hb
  go_wp2_with fail
  (with_reducible refine (HC2.out bs w1 HB.out HG.out).mono ?_)
  rintro e w2 ⟨⟨vp, d, bs2, rfl, hown, hgrid⟩, hb2⟩
  obtain ⟨VA, ck, rfl⟩ := own_slice hown
  have HPV : Hid (IntsUp w2 w.heap.size VA (nz (elGo (opsT p m l) rows cols).piv)) := (ints_of_own hown rfl).lower (by have := HB.out.size; omega)
  have HGR := Lib.hid hgrid
  have HB2 := Lib.hid (HB.out.trans hb2)
  clear hown hgrid hb2
  have HX : Hid (RowsUp w2 w.heap.size (some ⟨w.heap.size, 0, none⟩) (nzs cm)) := HGR.out.rowsAt cm (by rw [HK.out, HRL.out]; exact HK2.out.2) (fun i hi => HGD.out i (by rw [← HK.out]; exact hi))
  have hk1 : (elGo (opsT p m l) rows cols).piv.length ≤ rows.length := HK2.out.2
  rw [← HK.out] at hk1
  have HK3 := Lib.hid HK.out.symm
  clear HK HK2 HRL HGD HC1 HC2 HGR
  rw [HK3.out]
  go_wp2_with fail
  go_ret2
  exact ⟨⟨_, _, _, rfl, HX.out, HPV.out⟩, HB2.out⟩
/-- A vector of the kernel: column c is free. -/
def kerK (O : Ops) (rows : List (List Nat)) (piv : List Nat) (cols c : Nat) : Nat → List Nat
  | 0 => (List.replicate cols 0).set c 1
  | i + 1 => (kerK O rows piv cols c i).set (piv.getD i 0) (O.neg ((rows.getD i []).getD c 0))
theorem kerK_len (O : Ops) (rows : List (List Nat)) (piv : List Nat) (cols c : Nat) : ∀ i, (kerK O rows piv cols c i).length = cols
  | 0 => by simp [kerK]
  | i + 1 => by simp [kerK, kerK_len O rows piv cols c i]
theorem kerK_lt {q n cols : Nat} {O : Ops} (E : OpsEq q O O) (h1 : 1 < q) {rows : List (List Nat)} (hG : Grid q n cols rows) {piv : List Nat} {c : Nat} (hc : c < cols) : ∀ i, i ≤ n → ∀ x ∈ kerK O rows piv cols c i, x < q
  | 0, _, x, hx => by
    unfold kerK at hx
    rcases List.mem_or_eq_of_mem_set hx with h | h
    · simp at h; omega
    · omega
  | i + 1, hi, x, hx => by
    unfold kerK at hx
    rcases List.mem_or_eq_of_mem_set hx with h | h
    · exact kerK_lt E h1 hG hc i (by omega) x h
    · rw [h]
      have hr := hG.row (i := i) (by omega)
      have : (rows.getD i []).getD c 0 = (rows.getD i [])[c]'(by rw [hr.1]; exact hc) := by
        have : ∀ (l : List Nat) (hj : c < l.length), l.getD c 0 = l[c] := fun l hj => by simp [List.getD, hj]
        exact this _ _
      rw [this]
      exact (E.neg _ (hr.2 _ (List.getElem_mem _))).2
def freeC (piv : List Nat) (c : Nat) : List Nat := (List.range c).filter fun x => !decide (x ∈ piv)
def kerRows (O : Ops) (rows : List (List Nat)) (piv : List Nat) (cols : Nat) : List (List Nat) := (freeC piv cols).map fun c => kerK O rows piv cols c piv.length
theorem freeC_succ (piv : List Nat) (c : Nat) : freeC piv (c + 1) = freeC piv c ++ if c ∈ piv then [] else [c] := by
  unfold freeC
  rw [List.range_succ, List.filter_append]
  by_cases h : c ∈ piv <;> simp [h]
theorem freeC_le (piv : List Nat) (c : Nat) : (freeC piv c).length ≤ c := by
  unfold freeC
  have := List.length_filter_le (fun x => !decide (x ∈ piv)) (List.range c)
  simpa using this
theorem freeC_at (piv : List Nat) : ∀ (cols c : Nat), c < cols → c ∉ piv → (freeC piv c).length < (freeC piv cols).length ∧ (freeC piv cols).getD (freeC piv c).length 0 = c
  | 0, c, h, _ => by omega
  | n + 1, c, h, hp => by
    rw [freeC_succ]
    by_cases hcn : c = n
    · subst hcn
      rw [if_neg hp]
      exact ⟨by simp, by simp [List.getD]⟩
    · obtain ⟨i1, i2⟩ := freeC_at piv n c (by omega) hp
      refine ⟨by rw [List.length_append]; omega, ?_⟩
      rw [show (freeC piv n ++ if n ∈ piv then [] else [n]).getD (freeC piv c).length 0 = (freeC piv n).getD (freeC piv c).length 0 by simp only [List.getD, List.getElem?_append_left i1]]
      exact i2
theorem kerRows_len (O : Ops) (rows : List (List Nat)) (piv : List Nat) (cols : Nat) : (kerRows O rows piv cols).length = (freeC piv cols).length := by simp [kerRows]
theorem kerRows_at (O : Ops) (rows : List (List Nat)) (piv : List Nat) (cols c : Nat) (hc : c < cols) (hp : c ∉ piv) : (kerRows O rows piv cols).getD (freeC piv c).length [] = kerK O rows piv cols c piv.length := by
  obtain ⟨h1, h2⟩ := freeC_at piv cols c hc hp
  have e : (freeC piv cols)[(freeC piv c).length]? = some c := by
    rw [List.getElem?_eq_getElem h1]
    rw [List.getD, List.getElem?_eq_getElem h1] at h2
    simpa using h2
  simp [kerRows, List.getD, e]
theorem kerRows_grid {q n cols : Nat} {O : Ops} (E : OpsEq q O O) (h1 : 1 < q) {rows : List (List Nat)} {piv : List Nat} (hG : Grid q n cols rows) (hn : piv.length = n) : Grid q (kerRows O rows piv cols).length cols (kerRows O rows piv cols) := by
  refine ⟨rfl, fun r hr => ?_⟩
  unfold kerRows at hr
  obtain ⟨c, hc, rfl⟩ := List.mem_map.1 hr
  have hcl : c < cols := by
    have := (List.mem_filter.1 hc).1
    simpa using this
  exact ⟨kerK_len _ _ _ _ _ _, kerK_lt E h1 hG hcl _ (by omega)⟩
def kerM (O : Ops) (rows : List (List Nat)) (cols : Nat) : List (List Nat) := canonM O (kerRows O (canonM O rows cols) (elGo O rows cols).piv cols) cols
def RelKer (w2 : World) (piv : List Nat) (cols : Nat) (kr : List (List Nat)) (v10 v37 : Value) (wr : World) : Prop :=
  ∃ (c : Nat) (bs : List (Nat × Nat)), c ≤ cols ∧ v37 = .int .i64 c ∧ LGrid wr (w2.heap.size) v10 kr bs (freeC piv c).length ∧ Below w2.heap.size w2 wr
def RelKi (w4 : World) (O : Ops) (rows : List (List Nat)) (piv : List Nat) (cols c : Nat) (v51 : Value) (wr : World) : Prop :=
  ∃ i : Nat, i ≤ piv.length ∧ v51 = .int .i64 i ∧ Row wr w4.heap.size w4.heap.size cols (nz (kerK O rows piv cols c i)) ∧ Below w4.heap.size w4 wr
theorem canon_grid {q n cols : Nat} {O : Ops} (E : OpsEq q O O) {rows : List (List Nat)} (hG : Grid q n cols rows) : Grid q (elGo O rows cols).piv.length cols (canonM O rows cols) := by
  have hg := (elGo_eq E hG cols (Nat.le_refl _)).2
  have hp := (elGo_piv (O := O) rows cols).2
  refine ⟨canonM_len O rows cols, fun r hr => ?_⟩
  obtain ⟨i, hi, rfl⟩ := List.mem_iff_getElem.1 hr
  have hi' : i < (elGo O rows cols).piv.length := by rw [canonM_len] at hi; exact hi
  have e : (canonM O rows cols)[i] = (elGo O rows cols).rows.getD i [] := by
    rw [← canonM_getD O rows cols i hi']
    simp [List.getD, hi]
  rw [e]
  exact hg.row (i := i) (by rw [hG.1] at hp; omega)
end Go.Proofs.YthiackegnpnmbaaGreat

