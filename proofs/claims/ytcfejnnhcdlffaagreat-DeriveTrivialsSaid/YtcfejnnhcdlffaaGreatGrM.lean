/-
  code.Check.
-/
import Derived.Test.YtcfejnnhcdlffaaGreatGpM
namespace Go.Proofs.YtcfejnnhcdlffaaGreat
open Go.RowKit Pln

section
variable {P : Program} {ops : Array Oper} {S : World → Prop}
/-- The load of a struct that lies in every world. -/
theorem keep_load_mid {Q : Act → Prop} {a : Act} {o : Oper} {rest : List Oper} (hg : o.guard = none) (ty : TypeId) (x : Operand) (ho : o.op = .load ty x)
    (b off : Nat) (hx : a.eval x = .pointer (some ⟨b, off, none⟩)) (cs : List Value) (d : TypeDesc) (hS : ∀ w, S w → w.rangeAt b off cs)
    (hu : P.underlying ty = some d) (hd : d.isRow = true) (hi : (P.info? ty).map (·.size) = some cs.length)
    (h : wpKeep P ops S Q rest (a.put o.dst (.agg cs.toArray))) : wpKeep P ops S Q (o :: rest) a :=
  keep_val hg (fun W hW => by
    unfold execOp
    simp only [ho, hx, Instr.loadAt, Instr.sureAddr, Sem.run_bind, Sem.run_pure, Result.andThen_ok, run_loadVar_mid W b off ty cs d (hS W hW) hu hd hi]) h
end
theorem codeSize : (Tryz.prog.info? 27).map (·.size) = some 5 := by kernel_rfl
def lengthZ (n : Int) : Int := if n < 1 ∨ 64 < n then 4 else 0
theorem length_c (n : Int) (w : World) : Calls Tryz.prog 21 #[.int .i64 n] w fun e w' => e = .returned (.int .i64 (lengthZ n)) ∧ w = w' := by
  by_cases h1 : n < 1
  · have HE : Hid (lengthZ n = 4) := by show _ = _; unfold lengthZ; rw [if_pos (by omega)]
    go_enter Tryz.func21, Tryz.ntmps21
    go_wp2_with fail
    go_ret
    exact ⟨ret_int HE.out.symm, rfl⟩
  · by_cases h2 : 64 < n
    · have HE : Hid (lengthZ n = 4) := by show _ = _; unfold lengthZ; rw [if_pos (by omega)]
      go_enter Tryz.func21, Tryz.ntmps21
      go_wp2_with fail
      go_ret
      exact ⟨ret_int HE.out.symm, rfl⟩
    · have HE : Hid (lengthZ n = 0) := by show _ = _; unfold lengthZ; rw [if_neg (by omega)]
      go_enter Tryz.func21, Tryz.ntmps21
      go_wp2_with fail
      go_ret
      exact ⟨ret_int HE.out.symm, rfl⟩
/-- The cells of a code. -/
def codeV (p m : Int) (Am : Option Addr) (n cm : Nat) (N : Int) (A : Option Addr) (nz c : Nat) : List Value := [.int .i64 p, .int .i64 m, .slice Am n cm, .int .i64 N, .slice A nz c]

set_option maxHeartbeats 1000000 in
set_option maxRecDepth 100000 in
theorem gen_c (p m : Int) (Am : Option Addr) (n cm : Nat) (N : Int) (A : Option Addr) (nz c : Nat) (w : World) :
    Calls Tryz.prog 23 #[.agg #[.int .i64 p, .int .i64 m, .slice Am n cm, .int .i64 N, .slice A nz c]] w fun e w' => e = .returned (.agg #[.int .i64 N, .slice A nz c]) ∧ Below w.heap.size w w' := by
  have HB0 : Hid (Below w.heap.size w (w.alloc (.cells #[.int .i64 p, .int .i64 m, .slice Am n cm, .int .i64 N, .slice A nz c] 27))) := (Below.refl _ _).alloc (Nat.le_refl _) _
  go_enter Tryz.func23, Tryz.ntmps23
  have HW0 : Hid ((w.alloc (.cells #[.int .i64 p, .int .i64 m, .slice Am n cm, .int .i64 N, .slice A nz c] 27)).heap.size = w.heap.size + 1) := by show _ = _; simp
  have HK : Hid (((w.alloc (.cells #[.int .i64 p, .int .i64 m, .slice Am n cm, .int .i64 N, .slice A nz c] 27)).alloc (.cells #[.int .i64 N, .slice A nz c] 47)).heap[w.heap.size + 1]? = some (.cells #[.int .i64 N, .slice A nz c] 47 (0, 0))) := by
    have := heap_alloc_new (w.alloc (.cells #[.int .i64 p, .int .i64 m, .slice Am n cm, .int .i64 N, .slice A nz c] 27)) (.cells #[.int .i64 N, .slice A nz c] 47)
    rw [HW0.out] at this
    exact this
  have HB1 : Hid (Below w.heap.size w ((w.alloc (.cells #[.int .i64 p, .int .i64 m, .slice Am n cm, .int .i64 N, .slice A nz c] 27)).alloc (.cells #[.int .i64 N, .slice A nz c] 47))) := HB0.out.alloc (by rw [HW0.out]; omega) _
  go_wp2_with (refine wpList_store_new rfl 47 (.tmp 2) (.tmp 7) rfl (w.alloc (.cells #[.int .i64 p, .int .i64 m, .slice Am n cm, .int .i64 N, .slice A nz c] 27)) _ #[.int .i64 N, .slice A nz c] (by show _ = Value.pointer (some ⟨_, 0, none⟩); rw [HW0.out]; rfl) rfl matSize rfl (by simp [Value.oneCell']) ?_)
  refine bodyPost_ret (results_cell_row (P := Tryz.prog) rfl _ _ (w.heap.size + 1) 47 #[.int .i64 N, .slice A nz c] (0, 0) _ rfl HK.out Tryz.underlying47 rfl matSize) rfl ?_
  exact ⟨rfl, HB1.out⟩
#print axioms gen_c
end Go.Proofs.YtcfejnnhcdlffaaGreat

/-
  code.Check.
-/
namespace Go.Proofs.YtcfejnnhcdlffaaGreat
open Go.RowKit Pln

/-- The error of a code. -/
def codeZ (p m : Int) (mod : List Int) (N : Int) (zs : List (List Int)) : Int := if fieldOK p m mod = false then 1 else if lengthZ N ≠ 0 then 4 else spZ p m mod N zs
def SBoxC (w : World) (cs : List Value) (W : World) : Prop := W.heap[w.heap.size]? = some (.cells cs.toArray 27 (0, 0)) ∧ Below w.heap.size w W ∧ w.heap.size < W.heap.size
theorem SBoxC.grow {w : World} {cs : List Value} {W W' : World} (h : SBoxC w cs W) (hb : Below W.heap.size W W') : SBoxC w cs W' := by
  obtain ⟨h1, h2, h3⟩ := h
  exact ⟨(hb.block _ h3).trans h1, h2.trans (hb.mono (Nat.le_of_lt h3)), Nat.lt_of_lt_of_le h3 hb.size⟩
theorem SBoxC.range {w : World} {cs : List Value} {W : World} (h : SBoxC w cs W) : W.rangeAt w.heap.size 0 cs := range_of_row h.1
theorem SBoxC.range3 {w : World} {v0 v1 v2 v3 v4 : Value} {W : World} (h : SBoxC w [v0, v1, v2, v3, v4] W) : W.rangeAt w.heap.size 0 [v0, v1, v2] := fun j v hv => by
  have hr := range_of_row h.1
  refine hr j v ?_
  rcases j with _ | _ | _ | j
  · exact hv
  · exact hv
  · exact hv
  · simp at hv

set_option maxHeartbeats 1000000 in
set_option maxRecDepth 100000 in
theorem codecheck_c (p m : Int) (mod : List Int) (Am : Option Addr) (cm : Nat) (N : Int) (zs : List (List Int)) (A : Option Addr) (c : Nat) (w : World) (hM : IntsAt w w.heap.size Am mod) (hl : mod.length ≤ 9223372036854775807)
    (hA : RowsAt w w.heap.size A zs) (hlz : zs.length ≤ 9223372036854775807) :
    Calls Tryz.prog 10 #[.agg #[.int .i64 p, .int .i64 m, .slice Am mod.length cm, .int .i64 N, .slice A zs.length c]] w fun e w' => e = .returned (.int .i64 (codeZ p m mod N zs)) ∧ Below w.heap.size w w' := by
  have HX : Hid (SBoxC w [.int .i64 p, .int .i64 m, .slice Am mod.length cm, .int .i64 N, .slice A zs.length c] (w.alloc (.cells #[.int .i64 p, .int .i64 m, .slice Am mod.length cm, .int .i64 N, .slice A zs.length c] 27))) :=
    ⟨heap_alloc_new _ _, (Below.refl _ _).alloc (Nat.le_refl _) _, by simp⟩
  have HM := Lib.hid hM
  have HA := Lib.hid hA
  clear hM hA
  go_enter Tryz.func10, Tryz.ntmps10
  go_upto_region 1 with fail
  generalize w.alloc (.cells #[.int .i64 p, .int .i64 m, .slice Am mod.length cm, .int .i64 N, .slice A zs.length c] 27) = W0 at *
  have HRG := Lib.hid HX.out.range3
  have HC := Lib.hid (fcheck_c p m mod Am cm W0 ((HM.out.keep HX.out.2.1).more HX.out.2.1.size) hl)
  go_wp2_with (refine wpList_load_mid rfl 24 (.tmp 4) rfl w.heap.size 0 rfl [.int .i64 p, .int .i64 m, .slice Am mod.length cm] _ HRG.out Tryz.underlying24 rfl fieldSize ?_)
  (with_reducible refine HC.out.mono ?_)
  rintro e w1 ⟨rfl, hb1⟩
  have HX1 := Lib.hid (HX.out.grow hb1)
  clear hb1 HX HC HRG
  clear W0
  cases hok : fieldOK p m mod
  · have HE : Hid (codeZ p m mod N zs = 1) := by show _ = _; unfold codeZ; rw [if_pos hok]
    have he : errF false = 1 := rfl
    rw [he]
    clear hok he
    go_wp2_with fail
    go_ret
    exact ⟨ret_int HE.out.symm, HX1.out.2.1⟩
  · have he : errF true = 0 := rfl
    rw [he]
    have a3 : w1.cell? ⟨w.heap.size, 3, none⟩ = some (.int .i64 N) := cell_of_row _ _ 3 _ _ _ HX1.out.1
    clear he
    by_cases hn : N < 1 ∨ 64 < N
    · have hlz4 : lengthZ N = 4 := by unfold lengthZ; rw [if_pos hn]
      have HE : Hid (codeZ p m mod N zs = 4) := by show _ = _; unfold codeZ; rw [if_neg (by simp [hok]), if_pos (by rw [hlz4]; decide)]
      have HL : Hid (Calls Tryz.prog 21 #[.int .i64 N] w1 fun e w' => e = .returned (.int .i64 4) ∧ w1 = w') := by
        have := length_c N w1
        rw [hlz4] at this
        exact this
      clear hok hn hlz4
      go_wp2_with (go_at_call 21; (with_reducible refine HL.out.mono ?_); rintro e w' ⟨rfl, rfl⟩)
      go_ret
      exact ⟨ret_int HE.out.symm, HX1.out.2.1⟩
    · have hlz0 : lengthZ N = 0 := by unfold lengthZ; rw [if_neg hn]
      have HE : Hid (codeZ p m mod N zs = spZ p m mod N zs) := by show _ = _; unfold codeZ; rw [if_neg (by simp [hok]), if_neg (by rw [hlz0]; decide)]
      have HL : Hid (Calls Tryz.prog 21 #[.int .i64 N] w1 fun e w' => e = .returned (.int .i64 0) ∧ w1 = w') := by
        have := length_c N w1
        rw [hlz0] at this
        exact this
      have HGEN : Hid (∀ W, SBoxC w [.int .i64 p, .int .i64 m, .slice Am mod.length cm, .int .i64 N, .slice A zs.length c] W → Calls Tryz.prog 23 #[.agg #[.int .i64 p, .int .i64 m, .slice Am mod.length cm, .int .i64 N, .slice A zs.length c]] W fun e w' => e = .returned (.agg #[.int .i64 N, .slice A zs.length c]) ∧ SBoxC w [.int .i64 p, .int .i64 m, .slice Am mod.length cm, .int .i64 N, .slice A zs.length c] w') :=
        fun W hW => (gen_c p m Am mod.length cm N A zs.length c W).mono fun e w' ⟨he, hb⟩ => ⟨he, hW.grow hb⟩
      have HSC : Hid (∀ W, SBoxC w [.int .i64 p, .int .i64 m, .slice Am mod.length cm, .int .i64 N, .slice A zs.length c] W → Calls Tryz.prog 22 #[.agg #[.int .i64 p, .int .i64 m, .slice Am mod.length cm], .agg #[.int .i64 N, .slice A zs.length c]] W fun e w' => e = .returned (.int .i64 (spZ p m mod N zs)) ∧ SBoxC w [.int .i64 p, .int .i64 m, .slice Am mod.length cm, .int .i64 N, .slice A zs.length c] w') :=
        fun W hW => (scheck_c p m mod Am cm N zs A c W ((HM.out.keep hW.2.1).more hW.2.1.size) hl ((HA.out.keep hW.2.1).more hW.2.1.size) hlz (by omega)).mono fun e w' ⟨he, hb⟩ => ⟨he, hW.grow hb⟩
      clear hok hn hlz0 HM HA
      go_upto_region 6 with (go_at_call 21; (with_reducible refine HL.out.mono ?_); rintro e w' ⟨rfl, rfl⟩)
      clear a3
      refine wp_region_keep (SBoxC w [.int .i64 p, .int .i64 m, .slice Am mod.length cm, .int .i64 N, .slice A zs.length c]) (by kernel_rfl) (by kernel_rfl) (HX1.out.grow (Below.refl _ _).drew) ?_
      repeat (first
        | (refine keep_load_mid rfl 24 (.tmp 14) rfl w.heap.size 0 rfl [.int .i64 p, .int .i64 m, .slice Am mod.length cm] _ (fun W hW => hW.range3) Tryz.underlying24 rfl fieldSize ?_
           go_simp)
        | (refine keep_load_mid rfl 27 (.tmp 1) rfl w.heap.size 0 rfl [.int .i64 p, .int .i64 m, .slice Am mod.length cm, .int .i64 N, .slice A zs.length c] _ (fun W hW => hW.range) Tryz.underlying27 rfl codeSize ?_
           go_simp)
        | (apply keep_val rfl
           · intro W hS
             go_simp
             rfl
           go_simp)
        | (apply keep_call rfl
           · intro W hS
             go_simp
             exact ⟨rfl, rfl⟩
           · intro W hS
             first
               | exact HGEN.out W hS
               | exact HSC.out W hS
           go_simp))
      refine wpKeep_nil ?_
      intro w2 hS2
      go_wp2_with fail
      go_ret
      exact ⟨ret_int HE.out.symm, hS2.2.1⟩
#print axioms codecheck_c
end Go.Proofs.YtcfejnnhcdlffaaGreat
