/-
  derive.Trivial.
-/
import Derived.Test.YtcfejnnhcdlffaaGreatGv
namespace Go.Proofs.YtcfejnnhcdlffaaGreat
open Go.RowKit Pln

theorem code_ok {p m : Int} {mod : List Int} {N : Int} {zs : List (List Int)} (h : codeZ p m mod N zs = 0) : fieldOK p m mod = true ∧ 1 ≤ N ∧ N ≤ 64 ∧ spZ p m mod N zs = 0 := by
  unfold codeZ at h
  by_cases h1 : fieldOK p m mod = false
  · rw [if_pos h1] at h; cases h
  · rw [if_neg h1] at h
    by_cases h2 : lengthZ N ≠ 0
    · rw [if_pos h2] at h; cases h
    · rw [if_neg h2] at h
      have h3 : ¬ (N < 1 ∨ 64 < N) := fun h4 => h2 (by unfold lengthZ; rw [if_pos h4]; decide)
      exact ⟨by simpa using h1, by omega, by omega, h⟩
theorem sp_ok {p m : Int} {mod : List Int} {N : Int} {zs : List (List Int)} (hf : fieldOK p m mod = true) (h : spZ p m mod N zs = 0) : checkZ (p.toNat ^ m.toNat) N zs = 0 ∧ nzs (canZ p m mod N zs) = zs := by
  unfold spZ at h
  by_cases h1 : errC p m mod N zs ≠ 0
  · rw [if_pos h1] at h; exact absurd h h1
  · rw [if_neg h1] at h
    have h2 : errC p m mod N zs = 0 := by simpa using h1
    unfold errC at h2
    rw [if_pos hf] at h2
    by_cases h3 : nzs (canZ p m mod N zs) = zs
    · exact ⟨h2, h3⟩
    · rw [if_neg h3] at h; cases h
theorem mod_short {p m : Int} {mod : List Int} (h : fieldOK p m mod = true) : mod.length ≤ 8 := by
  unfold fieldOK at h
  rw [Bool.and_eq_true] at h
  have hs := shape_is h.1
  by_cases hm : m = 1
  · rw [hs.one hm]; simp
  · rw [hs.len hm]; exact hs.small.m2
theorem SB.set {w : World} {b : Nat} {cs : List Value} {W : World} (h : SB w b cs W) (k : Nat) (v : Value) : SB w b (cs.set k v) (W.setCell ⟨b, k, none⟩ v) :=
  ⟨heap_set_same h.1 k v, h.2.1.setCell (p := ⟨b, k, none⟩) h.2.2.1 v, h.2.2.1, by simpa using h.2.2.2⟩
theorem SB.frozen {w : World} {b : Nat} {cs : List Value} {W : World} (h : SB w b cs W) (k : Nat) : W.frozen? ⟨b, k, none⟩ = false := by simp [World.frozen?, h.1]
def CutT (w1 : World) (cs : List Value) (v5 : Value) (wx : World) : Prop := v5 = .pointer (some ⟨w1.heap.size, 0, none⟩) ∧ SB w1 w1.heap.size cs wx
theorem foldl_set : ∀ (l : List Value) (k : Nat) (arr : Array Value), k + l.length = arr.size → List.foldl (fun (cs : Array Value) (x : Value × Nat) => cs.setIfInBounds x.snd x.fst) arr (l.zipIdx k) = (arr.toList.take k ++ l).toArray
  | [], k, arr, h => by
    simp only [List.length_nil, Nat.add_zero] at h
    subst h
    rw [← Array.length_toList, List.take_length, List.append_nil]
    simp
  | x :: l, k, arr, h => by
    rw [List.zipIdx_cons, List.foldl_cons, foldl_set l (k + 1) _ (by simp at h ⊢; omega)]
    congr 1
    have hk : k < arr.toList.length := by simp at h ⊢; omega
    show (arr.setIfInBounds k x).toList.take (k + 1) ++ l = _
    rw [Array.toList_setIfInBounds, List.take_succ_eq_append_getElem (by simpa using hk), List.take_set_of_le (Nat.le_refl _)]
    simp
def lowZ (N : Int) (n : Nat) : Int := if n = 0 then N + 1 else 1
def TrivPost (w : World) (p m : Int) (mod : List Int) (N : Int) (zs : List (List Int)) (e : Ending) (w' : World) : Prop :=
  Below w.heap.size w w' ∧ ((codeZ p m mod N zs ≠ 0 ∧ e = .returned (.tuple #[.slice none 0 0, .int .i64 (codeZ p m mod N zs)])) ∨
    (codeZ p m mod N zs = 0 ∧ ∃ (b : Nat) (A1 : Option Addr) (c1 : Nat) (A2 : Option Addr) (c2 : Nat), e = .returned (.tuple #[.slice (some ⟨b, 0, none⟩) 1 1, .int .i64 0]) ∧ w'.heap[b]? = some (.cells (stepV p m A1 mod.length c1 N A2 zs.length c2 (lowZ N zs.length)).toArray 42 (0, 0)) ∧
      IntsAt w' w'.heap.size A1 mod ∧ RowsAt w' w'.heap.size A2 zs))

set_option maxHeartbeats 1000000 in
set_option maxRecDepth 100000 in
theorem trivial_c (p m : Int) (mod : List Int) (Am : Option Addr) (cm : Nat) (N : Int) (zs : List (List Int)) (A : Option Addr) (c : Nat) (w : World) (hM : IntsAt w w.heap.size Am mod) (hl : mod.length ≤ 9223372036854775807)
    (hA : RowsAt w w.heap.size A zs) (hlz : zs.length ≤ 9223372036854775807) :
    Calls Tryz.prog 5 #[.agg #[.int .i64 p, .int .i64 m, .slice Am mod.length cm, .int .i64 N, .slice A zs.length c]] w (TrivPost w p m mod N zs) := by
  have HX : Hid (SBoxC w [.int .i64 p, .int .i64 m, .slice Am mod.length cm, .int .i64 N, .slice A zs.length c] (w.alloc (.cells #[.int .i64 p, .int .i64 m, .slice Am mod.length cm, .int .i64 N, .slice A zs.length c] 27))) :=
    ⟨heap_alloc_new _ _, (Below.refl _ _).alloc (Nat.le_refl _) _, by simp⟩
  have HM := Lib.hid hM
  have HA := Lib.hid hA
  clear hM hA
  go_enter Tryz.func5, Tryz.ntmps5
  go_upto_region 1 with fail
  generalize w.alloc (.cells #[.int .i64 p, .int .i64 m, .slice Am mod.length cm, .int .i64 N, .slice A zs.length c] 27) = W0 at *
  have HRG := Lib.hid HX.out.range
  have HC := Lib.hid (codecheck_c p m mod Am cm N zs A c W0 ((HM.out.keep HX.out.2.1).more HX.out.2.1.size) hl ((HA.out.keep HX.out.2.1).more HX.out.2.1.size) hlz)
  go_wp2_with (refine wpList_load_mid rfl 27 (.tmp 1) rfl w.heap.size 0 rfl [.int .i64 p, .int .i64 m, .slice Am mod.length cm, .int .i64 N, .slice A zs.length c] _ HRG.out Tryz.underlying27 rfl codeSize ?_)
  (with_reducible refine HC.out.mono ?_)
  rintro e w1 ⟨rfl, hb1⟩
  have HX1 := Lib.hid (HX.out.grow hb1)
  clear hb1 HX HC HRG
  clear W0
  by_cases hz : codeZ p m mod N zs = 0
  · rw [hz]
    obtain ⟨hf, hN1, hN2, hsp⟩ := code_ok hz
    obtain ⟨hcz, _⟩ := sp_ok hf hsp
    obtain ⟨hnn, hgr, _, _, _⟩ := check_grid hcz
    have hml := mod_short hf
    have HZ := Lib.hid hz
    have HNN := Lib.hid hnn
    have hzl : zs.length ≤ 256 := by
      unfold checkZ at hcz
      by_cases h1 : N < 0 ∨ 256 < N ∨ 256 < zs.length
      · rw [if_pos h1] at hcz; cases hcz
      · omega
    have HROW : Hid (∀ r ∈ natR zs, 0 < r.length ∧ r.length ≤ 1000000) := fun r hr => by have := (hgr.2 r hr).1; omega
    clear hz hsp hcz hnn hgr hf
    have HRG := Lib.hid HX1.out.range
    have HY := Lib.hid (sb_new w1 (stepV p m Am mod.length cm N A zs.length c 1))
    go_upto_region 5 with (first
      | (refine wpList_load_mid rfl 27 (.tmp 1) rfl w.heap.size 0 rfl [.int .i64 p, .int .i64 m, .slice Am mod.length cm, .int .i64 N, .slice A zs.length c] _ HRG.out Tryz.underlying27 rfl codeSize ?_)
      | (refine wpList_store_new rfl 42 (.tmp 5) (.tmp 12) rfl w1 _ (stepV p m Am mod.length cm N A zs.length c 1).toArray rfl rfl stepSize rfl (by simp [stepV, Value.oneCell']) ?_))
    generalize w1.alloc (.cells (stepV p m Am mod.length cm N A zs.length c 1).toArray 42) = W2 at *
    have HX2 := Lib.hid (HX1.out.grow HY.out.2.1)
    have a4 : W2.cell? ⟨w.heap.size, 4, none⟩ = some (.slice A zs.length c) := cell_of_row _ _ 4 _ _ _ HX2.out.1
    have a3 : W2.cell? ⟨w.heap.size, 3, none⟩ = some (.int .i64 N) := cell_of_row _ _ 3 _ _ _ HX2.out.1
    go_upto_if 16 with fail
    go_cut [5] (fun v5 wx => CutT w1 (stepV p m Am mod.length cm N A zs.length c (lowZ N zs.length)) v5 wx)
    case first =>
      by_cases hn : zs.length = 0
      · have hnb : ((zs.length : Int) == 0) = true := by rw [beq_iff_eq]; omega
        have hlow : lowZ N zs.length = N + 1 := by unfold lowZ; rw [if_pos hn]
        have HT : Hid (CutT w1 (stepV p m Am mod.length cm N A zs.length c (lowZ N zs.length)) (.pointer (some ⟨w1.heap.size, 0, none⟩)) (W2.setCell ⟨w1.heap.size, 6, none⟩ (.int .i64 (N + 1)))) := ⟨rfl, by rw [hlow]; exact HY.out.set 6 (.int .i64 (N + 1))⟩
        have y6 : W2.cell? ⟨w1.heap.size, 6, none⟩ = some (.int .i64 1) := HY.out.cell rfl
        have f6 := HY.out.frozen 6
        clear hn hlow
        go_wp2_with fail
        go_meet
        exact HT.out
      · have hnb : ((zs.length : Int) == 0) = false := by rw [beq_eq_false_iff_ne]; omega
        have hlow : lowZ N zs.length = 1 := by unfold lowZ; rw [if_neg hn]
        have HT : Hid (CutT w1 (stepV p m Am mod.length cm N A zs.length c (lowZ N zs.length)) (.pointer (some ⟨w1.heap.size, 0, none⟩)) W2) := ⟨rfl, by rw [hlow]; exact HY.out⟩
        clear hn hlow
        go_wp2_with fail
        go_meet
        exact HT.out
    case rest =>
      obtain ⟨rfl, hsb⟩ := hcut
      have HSB := Lib.hid hsb
      have hb2 := HX1.out.2.1.trans (hsb.2.1.mono HX1.out.2.1.size)
      have HB2 := Lib.hid hb2
      clear hsb hb2 a4 a3 HX2 HY HRG
      have HRG := Lib.hid HSB.out.range
      have HCP : Hid (Calls Tryz.prog 11 #[.agg (stepV p m Am mod.length cm N A zs.length c (lowZ N zs.length)).toArray] wc fun e w' => (∃ A1 c1 A2 c2, e = .returned (.agg (stepV p m A1 mod.length c1 N A2 zs.length c2 (lowZ N zs.length)).toArray) ∧ IntsUp w' wc.heap.size A1 mod ∧ RowsUp w' wc.heap.size A2 zs) ∧ Below wc.heap.size wc w') := by
        have := copied_c p m mod Am cm N (natR zs) A c (lowZ N zs.length) wc ((HM.out.keep HB2.out).more HB2.out.size) (by omega) (by rw [HNN.out]; exact (HA.out.keep HB2.out).more HB2.out.size) HROW.out (by rw [natR_len]; omega)
        rw [natR_len, HNN.out] at this
        exact this
      have HP : Hid (∀ (b : Nat) (A1 : Option Addr) (c1 : Nat) (A2 : Option Addr) (c2 : Nat) (w' : World), Below w.heap.size w w' → w'.heap[b]? = some (.cells (stepV p m A1 mod.length c1 N A2 zs.length c2 (lowZ N zs.length)).toArray 42 (0, 0)) → IntsAt w' w'.heap.size A1 mod → RowsAt w' w'.heap.size A2 zs → TrivPost w p m mod N zs (.returned (.tuple #[.slice (some ⟨b, 0, none⟩) 1 1, .int .i64 0])) w') :=
        fun b A1 c1 A2 c2 w' h1 h2 h3 h4 => ⟨h1, .inr ⟨HZ.out, b, A1, c1, A2, c2, rfl, h2, h3, h4⟩⟩
      clear HM HA HROW HNN HZ
      go_wp2_with (refine wpList_load_mid rfl 42 (.tmp 5) rfl w1.heap.size 0 rfl (stepV p m Am mod.length cm N A zs.length c (lowZ N zs.length)) _ HRG.out Tryz.underlying42 rfl stepSize ?_)
      (with_reducible refine HCP.out.mono ?_)
      rintro e w3 ⟨⟨A1, c1, A2, c2, rfl, hi, hr⟩, hb3⟩
      have HI3 := Lib.hid hi
      have HR3 := Lib.hid hr
      have HB3 := Lib.hid (HB2.out.trans (hb3.mono HB2.out.size))
      clear hi hr hb3 HCP HRG HSB
      have hsz : (stepV p m A1 mod.length c1 N A2 zs.length c2 (lowZ N zs.length)).length = 23 := rfl
      have hfold : List.foldl (fun (cs : Array Value) (x : Value × Nat) => cs.setIfInBounds x.snd x.fst) #[.int .i64 0, .int .i64 0, .int .i64 0, .slice none 0 0, .int .i64 0, .slice none 0 0, .int .i64 0, .slice none 0 0, .slice none 0 0, .int .i64 0, .int .i64 0, .slice none 0 0, .int .i64 0, .int .i64 0, .int .i64 0, .int .i64 0, .int .i64 0, .slice none 0 0, .slice none 0 0, .slice none 0 0, .slice none 0 0, .int .i64 0, .slice none 0 0] (stepV p m A1 mod.length c1 N A2 zs.length c2 (lowZ N zs.length)).zipIdx = (stepV p m A1 mod.length c1 N A2 zs.length c2 (lowZ N zs.length)).toArray := by
        rw [foldl_set _ 0 _ (by rw [hsz]; rfl)]
        rfl

      go_wp2_with fail
      go_ret2
      exact HP.out w3.heap.size A1 c1 A2 c2 _ (HB3.out.alloc HB3.out.size _) (heap_alloc_new w3 _) ((HI3.out.ints.keep ((Below.refl _ _).alloc (Nat.le_refl _) _)).more (by simp)) ((HR3.out.rowsAt.keep ((Below.refl _ _).alloc (Nat.le_refl _) _)).more (by simp))
  · have hzb : (codeZ p m mod N zs != 0) = true := by simp [hz]
    have HP : Hid (∀ w', Below w.heap.size w w' → TrivPost w p m mod N zs (.returned (.tuple #[.slice none 0 0, .int .i64 (codeZ p m mod N zs)])) w') := fun w' hb => ⟨hb, .inl ⟨hz, rfl⟩⟩
    clear hz
    go_wp2_with fail
    go_ret2
    exact HP.out _ HX1.out.2.1
#print axioms trivial_c
end Go.Proofs.YtcfejnnhcdlffaaGreat
