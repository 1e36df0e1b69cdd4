/-
  The program's field: Check.
-/
import Derived.Test.YtcfejnnhcdlffaaGreatFg
namespace Go.Proofs.YtcfejnnhcdlffaaGreat
open Go.RowKit Pln

/-- Whether a description is that of a field, by the program. -/
def fieldOK (p m : Int) (mod : List Int) : Bool := shapeM p m mod && !(genM (mulM p.toNat m.toNat (mdOf m mod)) (p.toNat ^ m.toNat)).isEmpty
/-- OK, or ErrField. -/
def errF (b : Bool) : Int := if b = true then 0 else 1
def SBoxF (w : World) (p m : Int) (A : Option Addr) (n c : Nat) (W : World) : Prop :=
  Below w.heap.size w W ∧ w.heap.size < W.heap.size ∧ W.heap[w.heap.size]? = some (.cells #[.int .i64 p, .int .i64 m, .slice A n c] 24 (0, 0))
theorem SBoxF.grow {w : World} {p m : Int} {A : Option Addr} {n c : Nat} {W W' : World} (h : SBoxF w p m A n c W) (hb : Below W.heap.size W W') : SBoxF w p m A n c W' :=
  ⟨h.1.trans (hb.mono (Nat.le_of_lt h.2.1)), Nat.lt_of_lt_of_le h.2.1 hb.size, (hb.block _ h.2.1).trans h.2.2⟩
def CutC (w _W0 : World) (b : Bool) (v15 : Value) (wx : World) : Prop := v15 = .bool b ∧ Below w.heap.size w wx
/-- The generator of a description of the right shape. -/
theorem generator_s {p m : Int} {mod : List Int} (hs : ShapeIs p m mod) (A : Option Addr) (c : Nat) (w : World) (hA : IntsAt w w.heap.size A mod) :
    Calls Tryz.prog 36 #[.agg #[.int .i64 p, .int .i64 m, .slice A mod.length c], .int .i64 (orderM p m)] w fun e w' => (∃ v, e = .returned v ∧ GenV w' w.heap.size v (genM (mulM p.toNat m.toNat (mdOf m mod)) (p.toNat ^ m.toNat))) ∧ Below w.heap.size w w' := by
  have h := generator_c p.toNat m.toNat A mod.length c (mdOf m mod) w hs.small (hs.mod hA) hs.lt
  rw [hs.p0, hs.m0] at h
  rw [hs.ord]
  exact h

set_option maxHeartbeats 1000000 in
set_option maxRecDepth 100000 in
theorem fcheck_c (p m : Int) (mod : List Int) (A : Option Addr) (c : Nat) (w : World) (hA : IntsAt w w.heap.size A mod) (hl : mod.length ≤ 9223372036854775807) :
    Calls Tryz.prog 20 #[.agg #[.int .i64 p, .int .i64 m, .slice A mod.length c]] w fun e w' => e = .returned (.int .i64 (errF (fieldOK p m mod))) ∧ Below w.heap.size w w' := by
  have HA := Lib.hid hA
  have HCS : Hid (∀ W, w.heap.size ≤ W.heap.size → Below w.heap.size w W → Calls Tryz.prog 35 #[.agg #[.int .i64 p, .int .i64 m, .slice A mod.length c]] W fun e w' => e = .returned (.bool (shapeM p m mod)) ∧ Below W.heap.size W w') :=
    fun W h1 h2 => shape_c p m mod A c W ((hA.keep h2).more h1) hl
  have HCG : Hid (ShapeIs p m mod → ∀ W, w.heap.size ≤ W.heap.size → Below w.heap.size w W → Calls Tryz.prog 36 #[.agg #[.int .i64 p, .int .i64 m, .slice A mod.length c], .int .i64 (orderM p m)] W fun e w' => (∃ v, e = .returned v ∧ GenV w' W.heap.size v (genM (mulM p.toNat m.toNat (mdOf m mod)) (p.toNat ^ m.toNat))) ∧ Below W.heap.size W w') :=
    fun hs W h1 h2 => generator_s hs A c W ((hA.keep h2).more h1)
  clear hA
  go_enter Tryz.func20, Tryz.ntmps20
  go_upto_region 1 with fail
  have HW0 : Hid ((w.alloc (.cells #[.int .i64 p, .int .i64 m, .slice A mod.length c] 24)).heap.size = w.heap.size + 1) := by show _ = _; simp
  have HBLK : Hid ((w.alloc (.cells #[.int .i64 p, .int .i64 m, .slice A mod.length c] 24)).heap[w.heap.size]? = some (.cells [.int .i64 p, .int .i64 m, .slice A mod.length c].toArray 24 (0, 0))) := heap_alloc_new _ _
  have HB0 : Hid (Below w.heap.size w (w.alloc (.cells #[.int .i64 p, .int .i64 m, .slice A mod.length c] 24))) := (Below.refl _ _).alloc (Nat.le_refl _) _
  generalize w.alloc (.cells #[.int .i64 p, .int .i64 m, .slice A mod.length c] 24) = W0 at *
  have z0 : W0.cell? ⟨w.heap.size, 0, none⟩ = some (.int .i64 p) := cell_of_row _ _ 0 _ _ _ HBLK.out
  have z1 : W0.cell? ⟨w.heap.size, 1, none⟩ = some (.int .i64 m) := cell_of_row _ _ 1 _ _ _ HBLK.out
  have z2 : W0.cell? ⟨w.heap.size, 2, none⟩ = some (.slice A mod.length c) := cell_of_row _ _ 2 _ _ _ HBLK.out
  have hlb : w.heap.size < W0.heap.size := by have := HW0.out; omega
  go_cut [15] (fun v15 wx => CutC w W0 (!fieldOK p m mod) v15 wx)
  case first =>
    have HC1 := Lib.hid (HCS.out W0.drew (Nat.le_of_lt hlb) HB0.out.drew)
    cases hsh : shapeM p m mod
    · have HF : Hid (fieldOK p m mod = false) := by show _ = _; unfold fieldOK; rw [hsh]; rfl
      have HC0 := Lib.hid (fun W h1 h2 => HCS.out W h1 h2)
      rw [hsh] at HC0
      clear hsh HCG HC1
      refine wp_region_keep (SBoxF w p m A mod.length c) (by kernel_rfl) (by kernel_rfl) ⟨HB0.out.drew, hlb, HBLK.out⟩ ?_
      repeat (first
        | (apply keep_val rfl
           · intro W hS
             obtain ⟨_, _, hblk⟩ := hS
             have e0 : W.cell? ⟨w.heap.size, 0, none⟩ = some (.int .i64 p) := cell_of_row _ _ 0 _ _ _ hblk
             have e1 : W.cell? ⟨w.heap.size, 1, none⟩ = some (.int .i64 m) := cell_of_row _ _ 1 _ _ _ hblk
             have e2 : W.cell? ⟨w.heap.size, 2, none⟩ = some (.slice A mod.length c) := cell_of_row _ _ 2 _ _ _ hblk
             go_simp
             rfl
           go_simp)
        | (apply keep_call rfl
           · intro W hS
             go_simp
             exact ⟨rfl, rfl⟩
           · intro W hS
             exact (HC0.out W (Nat.le_of_lt hS.2.1) hS.1).mono (by rintro e w' ⟨rfl, hbw⟩; exact ⟨rfl, hS.grow hbw⟩)
           go_simp)
        | (apply keep_not rfl; go_simp))
      refine wpKeep_nil ?_
      intro w1 hS
      have HY : Hid (CutC w W0 (!fieldOK p m mod) (.bool true) w1) := ⟨by rw [HF.out]; rfl, hS.1⟩
      clear hS z0 z1 z2
      go_wp2_with fail
      go_meet
      exact HY.out
    · have hshape := shape_is hsh
      rw [hsh] at HC1
      have HCG2 := Lib.hid (HCG.out hshape)
      have HFE : Hid (fieldOK p m mod = !(genM (mulM p.toNat m.toNat (mdOf m mod)) (p.toNat ^ m.toNat)).isEmpty) := by show _ = _; unfold fieldOK; rw [hsh]; rfl
      clear hsh HCG hshape
      generalize genM (mulM p.toNat m.toNat (mdOf m mod)) (p.toNat ^ m.toNat) = gl at *
      by_cases hgl : gl = []
      · have HF : Hid (fieldOK p m mod = false) := by show _ = _; rw [HFE.out, hgl]; rfl
        have HCG3 : Hid (∀ W, w.heap.size ≤ W.heap.size → Below w.heap.size w W → Calls Tryz.prog 36 #[.agg #[.int .i64 p, .int .i64 m, .slice A mod.length c], .int .i64 (orderM p m)] W fun e w' => e = .returned (.slice none 0 0) ∧ Below W.heap.size W w') := fun W h1 h2 =>
          (HCG2.out W h1 h2).mono fun e w' ⟨⟨v, he, hv⟩, hb⟩ => by
            rcases hv with ⟨_, rfl⟩ | ⟨h, _⟩
            · exact ⟨he, hb⟩
            · exact absurd hgl h
        clear hgl HCG2 HFE
        have hen : ∀ (W : World) (a : Option Addr) (n c n' c' : Nat), (binOp .eql 22 (.slice a n c) (.slice none n' c')).run Tryz.prog W = .ok (.bool a.isNone) W := fun W a n c n' c' => Lib.run_eql_slice_nil W 22 3 a n c n' c' Tryz.underlying22
        go_region_held3 (fun w' => w'.cell? ⟨w.heap.size, 0, none⟩ = some (.int .i64 p) ∧ w'.cell? ⟨w.heap.size, 1, none⟩ = some (.int .i64 m) ∧ w'.cell? ⟨w.heap.size, 2, none⟩ = some (.slice A mod.length c))
          (first | go_keep | (go_split_ands; exact ⟨(hb3.cell (p := ⟨w.heap.size, 0, none⟩) hlb1).trans (by assumption), (hb3.cell (p := ⟨w.heap.size, 1, none⟩) hlb1).trans (by assumption), (hb3.cell (p := ⟨w.heap.size, 2, none⟩) hlb1).trans (by assumption)⟩) | (go_split_ands; exact ⟨(hb1.cell (p := ⟨w.heap.size, 0, none⟩) hlb).trans (by assumption), (hb1.cell (p := ⟨w.heap.size, 1, none⟩) hlb).trans (by assumption), (hb1.cell (p := ⟨w.heap.size, 2, none⟩) hlb).trans (by assumption)⟩))
          (first | ((with_reducible refine HC1.out.mono ?_); rintro e w1 ⟨rfl, hb1⟩; have hlb1 : w.heap.size < w1.heap.size := Nat.lt_of_lt_of_le hlb hb1.size; have HB1 : Hid (Below w.heap.size w w1) := HB0.out.drew.trans (hb1.mono (Nat.le_of_lt hlb))) | ((with_reducible refine (order_c _ _ _).mono ?_); rintro e w2 ⟨rfl, rfl⟩) | ((with_reducible refine (HCG3.out _ (Nat.le_of_lt hlb1) HB1.out).mono ?_); rintro e w3 ⟨rfl, hb3⟩))
        have HY : Hid (CutC w W0 (!fieldOK p m mod) (.bool true) w3) := ⟨by rw [HF.out]; rfl, HB1.out.trans (hb3.mono (Nat.le_of_lt hlb1))⟩
        clear hb1 hb3 z0 z1 z2 hen
        go_wp2_with fail
        go_meet
        exact HY.out
      · have HF : Hid (fieldOK p m mod = true) := by
          show _ = _
          rw [HFE.out]
          cases gl with
          | nil => exact absurd rfl hgl
          | cons a r => rfl
        have HCG3 : Hid (∀ W, w.heap.size ≤ W.heap.size → Below w.heap.size w W → Calls Tryz.prog 36 #[.agg #[.int .i64 p, .int .i64 m, .slice A mod.length c], .int .i64 (orderM p m)] W fun e w' => (∃ (g k c' : Nat), e = .returned (.slice (some ⟨g, 0, none⟩) k c')) ∧ Below W.heap.size W w') := fun W h1 h2 =>
          (HCG2.out W h1 h2).mono fun e w' ⟨⟨v, he, hv⟩, hb⟩ => by
            rcases hv with ⟨h, _⟩ | ⟨_, g, c', rfl, _⟩
            · exact absurd h hgl
            · exact ⟨⟨g, _, c', he⟩, hb⟩
        clear hgl HCG2 HFE
        have hen : ∀ (W : World) (a : Option Addr) (n c n' c' : Nat), (binOp .eql 22 (.slice a n c) (.slice none n' c')).run Tryz.prog W = .ok (.bool a.isNone) W := fun W a n c n' c' => Lib.run_eql_slice_nil W 22 3 a n c n' c' Tryz.underlying22
        go_region_held3 (fun w' => w'.cell? ⟨w.heap.size, 0, none⟩ = some (.int .i64 p) ∧ w'.cell? ⟨w.heap.size, 1, none⟩ = some (.int .i64 m) ∧ w'.cell? ⟨w.heap.size, 2, none⟩ = some (.slice A mod.length c))
          (first | go_keep | (go_split_ands; exact ⟨(hb3.cell (p := ⟨w.heap.size, 0, none⟩) hlb1).trans (by assumption), (hb3.cell (p := ⟨w.heap.size, 1, none⟩) hlb1).trans (by assumption), (hb3.cell (p := ⟨w.heap.size, 2, none⟩) hlb1).trans (by assumption)⟩) | (go_split_ands; exact ⟨(hb1.cell (p := ⟨w.heap.size, 0, none⟩) hlb).trans (by assumption), (hb1.cell (p := ⟨w.heap.size, 1, none⟩) hlb).trans (by assumption), (hb1.cell (p := ⟨w.heap.size, 2, none⟩) hlb).trans (by assumption)⟩))
          (first | ((with_reducible refine HC1.out.mono ?_); rintro e w1 ⟨rfl, hb1⟩; have hlb1 : w.heap.size < w1.heap.size := Nat.lt_of_lt_of_le hlb hb1.size; have HB1 : Hid (Below w.heap.size w w1) := HB0.out.drew.trans (hb1.mono (Nat.le_of_lt hlb))) | ((with_reducible refine (order_c _ _ _).mono ?_); rintro e w2 ⟨rfl, rfl⟩) | ((with_reducible refine (HCG3.out _ (Nat.le_of_lt hlb1) HB1.out).mono ?_); rintro e w3 ⟨⟨g, k, c', rfl⟩, hb3⟩))
        have HY : Hid (CutC w W0 (!fieldOK p m mod) (.bool false) w3) := ⟨by rw [HF.out]; rfl, HB1.out.trans (hb3.mono (Nat.le_of_lt hlb1))⟩
        clear hb1 hb3 z0 z1 z2 hen
        go_wp2_with fail
        go_meet
        exact HY.out
  case rest =>
    obtain ⟨rfl, hb⟩ := hcut
    have HB := Lib.hid hb
    clear hb z0 z1 z2 HCG HCS
    by_cases hf : fieldOK p m mod = true
    · have HF : Hid (errF (fieldOK p m mod) = 0) := by show _ = _; rw [hf]; rfl
      have hv : (!fieldOK p m mod) = false := by rw [hf]; rfl
      rw [hv]
      clear hv hf
      go_wp2_with fail
      go_ret
      exact ⟨ret_int HF.out.symm, HB.out⟩
    · have HF : Hid (errF (fieldOK p m mod) = 1) := by show _ = _; rw [show fieldOK p m mod = false by simpa using hf]; rfl
      have hv : (!fieldOK p m mod) = true := by simpa using hf
      rw [hv]
      clear hv hf
      go_wp2_with fail
      go_ret
      exact ⟨ret_int HF.out.symm, HB.out⟩
#print axioms fcheck_c
end Go.Proofs.YtcfejnnhcdlffaaGreat
