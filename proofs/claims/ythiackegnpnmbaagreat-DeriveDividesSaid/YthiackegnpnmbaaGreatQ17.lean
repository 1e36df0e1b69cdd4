/-
  matrix.open.
-/
import Derived.Test.YthiackegnpnmbaaGreatQ16
namespace Go.Proofs.YthiackegnpnmbaaGreat
open Go.RowKit Pln

section
variable {P : Program}
/-- A whole struct into a block. -/
theorem wpList_store_row {ops : Array Oper} {rest : List Oper} {o : Oper} {a : Act} {Q : Exit → Act → World → Prop} (hgd : o.guard = none) (ty : TypeId) (x y : Operand) (ho : o.op = .store ty x y)
    (w : World) (b : Nat) (t : TypeId) (c c' : Array Value) (hx : a.eval x = .pointer (some ⟨b, 0, none⟩)) (hy : a.eval y = .agg c') (hb : w.heap[b]? = some (.cells c t (0, 0)))
    (hi : (P.info? ty).map (·.size) = some c'.size) (hs : c.size = c'.size) (h1 : c'.all (·.oneCell') = true)
    (h : wpList P ops Q rest (a.put o.dst undef) (w.setRow b c')) : wpList P ops Q (o :: rest) a w :=
  wpList_plain hgd fun _ hK => by
    unfold Oper.wp execOp
    simp only [ho, hx, hy, Instr.storeAt, Instr.sureAddr, Sem.run_bind, Sem.run_pure, Result.andThen_ok, run_storeVar_row w b t ty c c' hb hi hs h1]
    exact hK _ _ h
end
theorem results_row_two {P : Program} {fn : Func} {p q r : Tmp} {ty : TypeId} (h : fn.results = #[.cell p ty, .tmp q, .tmp r]) (tmps : Array Value) (w : World) (g : Nat) (t : TypeId) (cs : Array Value) (fr : Nat × Nat) (d : TypeDesc) (u v : Value)
    (hp : tmps.getD p undef = .pointer (some ⟨g, 0, none⟩)) (hq : tmps.getD q undef = u) (hr : tmps.getD r undef = v) (hg : w.heap[g]? = some (.cells cs t fr))
    (hu : P.underlying ty = some d) (hd : (match d with | .struct _ | .array _ _ => true | _ => false) = true) (hi : (P.info? ty).map (·.size) = some cs.size) :
    (results fn tmps).run P w = .ok (.tuple #[.agg cs, u, v]) w := by
  have hp' : tmps[p]?.getD undef = .pointer (some ⟨g, 0, none⟩) := by simpa using hp
  have hq' : tmps[q]?.getD undef = u := by simpa using hq
  have hr' : tmps[r]?.getD undef = v := by simpa using hr
  simp [results, h, hp', hq', hr', asAddr, run_loadVar_row w g t ty cs fr d hg hu hd hi]
theorem results_row_one {P : Program} {fn : Func} {p q : Tmp} {ty : TypeId} (h : fn.results = #[.cell p ty, .tmp q]) (tmps : Array Value) (w : World) (g : Nat) (t : TypeId) (cs : Array Value) (fr : Nat × Nat) (d : TypeDesc) (u : Value)
    (hp : tmps.getD p undef = .pointer (some ⟨g, 0, none⟩)) (hq : tmps.getD q undef = u) (hg : w.heap[g]? = some (.cells cs t fr))
    (hu : P.underlying ty = some d) (hd : (match d with | .struct _ | .array _ _ => true | _ => false) = true) (hi : (P.info? ty).map (·.size) = some cs.size) :
    (results fn tmps).run P w = .ok (.tuple #[.agg cs, u]) w := by
  have hp' : tmps[p]?.getD undef = .pointer (some ⟨g, 0, none⟩) := by simpa using hp
  have hq' : tmps[q]?.getD undef = u := by simpa using hq
  simp [results, h, hp', hq', asAddr, run_loadVar_row w g t ty cs fr d hg hu hd hi]
theorem setRow_same (w : World) (b : Nat) (t : TypeId) (c c' : Array Value) (hb : w.heap[b]? = some (.cells c t (0, 0))) : (w.setRow b c').heap[b]? = some (.cells c' t (0, 0)) := by
  simp [World.setRow, Array.getElem?_modify, hb]
theorem matSize : (Tryz.prog.info? 53).map (·.size) = some 2 := by kernel_rfl
def lOf (p m : Int) (mod : List Int) : List Nat := genM (mulM p.toNat m.toNat (mdOf m mod)) (p.toNat ^ m.toNat)
def OpenPost (w : World) (p m : Int) (mod : List Int) (cols : Int) (zs : List (List Int)) (e : Ending) (w' : World) : Prop :=
  Below w.heap.size w w' ∧ ((fieldOK p m mod = false ∧ e = .returned (.tuple #[.pointer none, .int .i64 1])) ∨
    (fieldOK p m mod = true ∧ checkZ (p.toNat ^ m.toNat) cols zs ≠ 0 ∧ e = .returned (.tuple #[.pointer none, .int .i64 (checkZ (p.toNat ^ m.toNat) cols zs)])) ∨
    (fieldOK p m mod = true ∧ checkZ (p.toNat ^ m.toNat) cols zs = 0 ∧ ∃ gb, e = .returned (.tuple #[.pointer (some ⟨gb, 0, none⟩), .int .i64 0]) ∧ GFAt w' w'.heap.size gb p.toNat m.toNat (lOf p m mod) (logL (lOf p m mod) (p.toNat ^ m.toNat))))
def RelO (w1 : World) (z : Int) (v20 : Value) (wr : World) : Prop := ∃ k : Nat, k ≤ 1 ∧ v20 = .int .i64 k ∧ Below w1.heap.size w1 wr ∧ (k = 1 → z = 0)

set_option maxHeartbeats 1000000 in
set_option maxRecDepth 100000 in
theorem open_c (p m : Int) (mod : List Int) (Am : Option Addr) (cm : Nat) (cols : Int) (zs : List (List Int)) (A : Option Addr) (c b cb : Nat) (w : World) (hM : IntsAt w w.heap.size Am mod) (hl : mod.length ≤ 9223372036854775807)
    (hA : RowsAt w w.heap.size A zs) (hlz : zs.length ≤ 9223372036854775807) (hb : w.heap[b]? = some (.cells #[.int .i64 cols, .slice A zs.length c] 53 (0, 0))) :
    Calls Tryz.prog 193 #[.agg #[.int .i64 p, .int .i64 m, .slice Am mod.length cm], .slice (some ⟨b, 0, none⟩) 1 cb] w (OpenPost w p m mod cols zs) := by
  have HB0 : Hid (Below w.heap.size w (w.alloc (.cells #[.int .i64 p, .int .i64 m, .slice Am mod.length cm] 27))) := (Below.refl _ _).alloc (Nat.le_refl _) _
  have HS0 : Hid (w.heap.size ≤ (w.alloc (.cells #[.int .i64 p, .int .i64 m, .slice Am mod.length cm] 27)).heap.size) := by show _ ≤ _; simp
  have HM := Lib.hid ((hM.keep HB0.out).more HS0.out)
  have HA := Lib.hid hA
  have HBK := Lib.hid hb
  have hbl := block_lt hb
  clear hM hA hb
  cases hok : fieldOK p m mod
  · have HC := Lib.hid (fnew_no p m mod Am cm _ HM.out hl hok)
    have HP : Hid (∀ e w', Below w.heap.size w w' → e = .returned (.tuple #[.pointer none, .int .i64 1]) → OpenPost w p m mod cols zs e w') := fun e w' h1 h2 => ⟨h1, .inl ⟨hok, h2⟩⟩
    clear hok HM HA
    go_enter Tryz.func193, Tryz.ntmps193
    go_wp2_with fail
    generalize w.alloc (.cells #[.int .i64 p, .int .i64 m, .slice Am mod.length cm] 27) = W0 at *
    (with_reducible refine HC.out.mono ?_)
    rintro e w1 ⟨rfl, hb1⟩
    have HB1 := Lib.hid (HB0.out.trans (hb1.mono HS0.out))
    clear hb1
    go_wp2_with fail
    go_ret2
    exact HP.out _ _ HB1.out rfl
  · have HC := Lib.hid (fnew_ok p m mod Am cm _ HM.out hok)
    have HP1 : Hid (∀ e w', Below w.heap.size w w' → checkZ (p.toNat ^ m.toNat) cols zs ≠ 0 → e = .returned (.tuple #[.pointer none, .int .i64 (checkZ (p.toNat ^ m.toNat) cols zs)]) → OpenPost w p m mod cols zs e w') := fun e w' h1 h2 h3 => ⟨h1, .inr (.inl ⟨hok, h2, h3⟩)⟩
    have HP2 : Hid (∀ gb e w', Below w.heap.size w w' → checkZ (p.toNat ^ m.toNat) cols zs = 0 → e = .returned (.tuple #[.pointer (some ⟨gb, 0, none⟩), .int .i64 0]) → GFAt w' w'.heap.size gb p.toNat m.toNat (lOf p m mod) (logL (lOf p m mod) (p.toNat ^ m.toNat)) → OpenPost w p m mod cols zs e w') := fun gb e w' h1 h2 h3 h4 => ⟨h1, .inr (.inr ⟨hok, h2, gb, h3, h4⟩)⟩
    clear hok HM
    go_enter Tryz.func193, Tryz.ntmps193
    go_wp2_with fail
    generalize w.alloc (.cells #[.int .i64 p, .int .i64 m, .slice Am mod.length cm] 27) = W0 at *
    (with_reducible refine HC.out.mono ?_)
    rintro e w1 ⟨⟨gb, rfl, hgb0, hg⟩, hb1⟩
    have HB1 := Lib.hid (HB0.out.trans (hb1.mono HS0.out))
    have HG : Hid (GFAt w1 w1.heap.size gb p.toNat m.toNat (lOf p m mod) (logL (lOf p m mod) (p.toNat ^ m.toNat))) := hg
    have HA1 := Lib.hid ((HA.out.keep HB1.out).more HB1.out.size)
    have HBK1 := Lib.hid ((HB1.out.block b hbl).trans HBK.out)
    have hbl1 : b < w1.heap.size := Nat.lt_of_lt_of_le hbl HB1.out.size
    clear hb1 hg hgb0 HC HBK HA HB0 HS0 hbl
    clear W0
    go_wp2_with fail
    go_loopw [20] (fun v20 wr => RelO w1 (checkZ (p.toNat ^ m.toNat) cols zs) v20 wr) (fun v20 _ => 1 - (intOf v20).toNat)
    case atStart => exact ⟨0, by omega, rfl, Below.refl _ _, fun h => by omega⟩
    case round =>
      obtain ⟨k, hk, rfl, hbr, hz⟩ := hrel
      have HBR := Lib.hid hbr
      have HZ := Lib.hid hz
      clear hbr hz
      by_cases hk0 : k = 0
      · subst hk0
        have HRG : Hid (wr.rangeAt b 0 [.int .i64 cols, .slice A zs.length c]) := range_of_row ((HBR.out.block b hbl1).trans HBK1.out)
        have HBA : Hid (Below w1.heap.size w1 (wr.alloc (.cells #[.int .i64 cols, .slice A zs.length c] 53))) := HBR.out.alloc HBR.out.size _
        have HCC : Hid (∀ W : World, Below w1.heap.size w1 W → Calls Tryz.prog 230 #[.pointer (some ⟨gb, 0, none⟩), .agg #[.int .i64 cols, .slice A zs.length c]] W fun e w' => e = .returned (.int .i64 (checkZ (p.toNat ^ m.toNat) cols zs)) ∧ Below W.heap.size W w') :=
          fun W hW => check_c gb p.toNat m.toNat w1.heap.size _ _ cols zs A c W (HG.out.keep hW) hW.size ((HA1.out.keep hW).more hW.size) hlz
        go_wp2_with (first | (refine wpList_load_mid rfl 53 (.tmp 22) rfl b 0 rfl [.int .i64 cols, .slice A zs.length c] _ HRG.out Tryz.underlying53 rfl matSize ?_) | (refine wpList_store_new rfl 53 (.tmp 9) (.tmp 23) rfl wr _ #[.int .i64 cols, .slice A zs.length c] rfl rfl matSize rfl (by simp [Value.oneCell']) ?_))
        (with_reducible refine (HCC.out _ HBA.out).mono ?_)
        rintro e w3 ⟨rfl, hb3⟩
        have HB3 := Lib.hid (HBA.out.trans (hb3.mono HBA.out.size))
        clear hb3 HBA HCC HRG
        by_cases hcz : checkZ (p.toNat ^ m.toNat) cols zs = 0
        · have HCZ := Lib.hid hcz
          rw [hcz]
          clear hcz
          go_wp2_with fail
          go_roundw
          case rel => exact ⟨1, by omega, by go_num, HB3.out, fun _ => HCZ.out⟩
          case measure => simp [intOf]
        · have HCZ := Lib.hid hcz
          have hczb : (checkZ (p.toNat ^ m.toNat) cols zs != 0) = true := by simp [hcz]
          clear hcz
          go_wp2_with fail
          go_ret2
          exact HP1.out _ _ (HB1.out.trans (HB3.out.mono HB1.out.size)) HCZ.out rfl
      · obtain rfl : k = 1 := by omega
        have HZ0 := Lib.hid (HZ.out rfl)
        go_wp2_with fail
        go_ret2
        exact HP2.out gb _ _ (HB1.out.trans (HBR.out.mono HB1.out.size)) HZ0.out rfl ((HG.out.keep HBR.out).more HBR.out.size)
end Go.Proofs.YthiackegnpnmbaaGreat

