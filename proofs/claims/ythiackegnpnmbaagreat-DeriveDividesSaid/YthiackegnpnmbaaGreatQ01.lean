/-
  A region that draws its order, of values and of calls, in an order of the prover's; the last operations in their one order.
-/
import Derived.StillTail
import Derived.OrdersHeld
import Derived.Deep.MidRow
namespace Go.Proofs.YthiackegnpnmbaaGreat
/-! ### A region in which values and calls are taken in an order of the prover's; the last operations (from number n on) in their one order -/
section
variable {P : Program} {ops : Array Oper} {md : Region.Mode} {S : World → Prop} {Q : Exit → Act → World → Prop} {n g : Nat}
def wpAnyHL (P : Program) (md : Region.Mode) (ops : Array Oper) (Q : Exit → Act → World → Prop) (S : World → Prop) (n : Nat) (L : Array Bool → Act → World → Prop) : Nat → Array Bool → Act → World → Prop
  | 0, listed, a, w => L listed a w
  | f + 1, listed, a, w =>
    Region.ready md ops listed ≠ [] ∧ ∀ i ∈ Region.ready md ops listed, i < n ∧ wpOp P ops Q i (fun a' w' => S w' ∧ wpAnyHL P md ops Q S n L f (listed.setIfInBounds i true) a' w') a w
theorem wpAny_of_HL {L : Array Bool → Act → World → Prop} (hL : ∀ listed a w, L listed a w → wpAny P md ops Q g listed a w) :
    ∀ (f : Nat) (listed : Array Bool) (a : Act) (w : World), wpAnyHL P md ops Q S n L f listed a w → wpAny P md ops Q (f + g) listed a w
  | 0, listed, a, w, h => by rw [Nat.zero_add]; exact hL _ _ _ h
  | f + 1, listed, a, w, h => by
    rw [show f + 1 + g = (f + g) + 1 by omega]
    exact ⟨fun h0 => absurd h0 h.1, fun i hi => wpOp_mono (fun a' w' h' => wpAny_of_HL hL f _ a' w' h'.2) (h.2 i hi).2⟩
theorem wpAnyHL_first {i : Nat} {oi : Oper} {v : Value} {L : Array Bool → Act → World → Prop} (hi : ops[i]? = some oi) (hsel : ∀ (j : Nat) (o : Oper) cs b, ops[j]? = some o → o.op ≠ .select cs b)
    (hs : Region.sinkB md ops n = true) (hc : Region.chainB md ops n = true) (hn : n < ops.size) (hin : i < n)
    (hdone : ∀ listed a w, L listed a w → ∀ j ∈ Region.ready md ops listed, n ≤ j)
    (hQ : ∀ c a w, Q (.panic c) (a.put oi.dst v) w → Q (.panic c) a w) :
    ∀ (f : Nat) (listed : Array Bool) (a : Act) (w : World), HeadInv md ops n listed →
      (∀ j oj, ops[j]? = some oj → j ≠ i → listed.getD j true = false → (∀ e ∈ oj.after, Region.binds md e = true → e.on ≠ i) → oi.apart ops oj = true) →
      i ∈ Region.ready md ops listed → YieldsIf P ops S oi v a → S w →
      wpAnyHL P md ops Q S n L f (listed.setIfInBounds i true) (a.put oi.dst v) w → wpAnyHL P md ops Q S n L (f + 1) listed a w := by
  intro f
  induction f with
  | zero =>
    intro listed a w inv _ hr hy hS H
    have hun := (mem_ready.1 hr).1
    refine ⟨fun h => (by rw [h] at hr; cases hr), fun j hj => ?_⟩
    have hjn : j < n := by
      rcases Nat.lt_or_ge j n with h | h
      · exact h
      · exact absurd hj (tail_waits hs hc hn inv _ i rfl hin hun j h)
    refine ⟨hjn, ?_⟩
    by_cases hji : j = i
    · subst hji
      exact hy.wpOp hi hS ⟨hS, H⟩
    · have := hdone _ _ _ H j (ready_mono hj hji)
      omega
  | succ f ih =>
    intro listed a w inv hfree hr hy hS H
    have hun := (mem_ready.1 hr).1
    refine ⟨fun h => (by rw [h] at hr; cases hr), fun j hj => ?_⟩
    have hjn : j < n := by
      rcases Nat.lt_or_ge j n with h | h
      · exact h
      · exact absurd hj (tail_waits hs hc hn inv _ i rfl hin hun j h)
    refine ⟨hjn, ?_⟩
    by_cases hji : j = i
    · subst hji
      exact hy.wpOp hi hS ⟨hS, H⟩
    · have h1 := (H.2 j (ready_mono hj hji)).2
      obtain ⟨hjun, oj, hoj, hall⟩ := mem_ready.1 hj
      have hnot : ∀ e ∈ oj.after, Region.binds md e = true → e.on ≠ i := fun e he hb heq => by
        have h1 := hall e he hb
        rw [heq, getD_both hun] at h1
        cases h1
      have h2 := wpOp_putIf hoj (hfree j oj hoj hji hjun hnot) (fun cs b => hsel i oi cs b hi) (fun cs b => hsel j oj cs b hoj) hQ hy h1
      have hfree' : ∀ k ok, ops[k]? = some ok → k ≠ i → (listed.setIfInBounds j true).getD k true = false →
          (∀ e ∈ ok.after, Region.binds md e = true → e.on ≠ i) → oi.apart ops ok = true := fun k ok hk hki hun hno => by
        refine hfree k ok hk hki ?_ hno
        by_cases hjk : j = k
        · subst hjk; exact hjun
        · rw [getD_set_ne true hjk] at hun; exact hun
      refine wpOp_mono (fun a' w' h3 => ⟨h3.2.1, ih (listed.setIfInBounds j true) a' w' (inv.set hj hjn) hfree' (ready_mono hr (Ne.symm hji)) h3.1 h3.2.1 ?_⟩) h2
      rw [Array.setIfInBounds_comm _ _ hji]
      exact h3.2.2
theorem wanted_none {o : Oper} (hg : o.guard = none) (t : Nat → Option Bool) : Region.wanted o t = true := by simp [Region.wanted, hg]
/-- The walk: a value that every world with S gives (true), or the one call that may come up (false). -/
def wpMix (P : Program) (S : World → Prop) (K : Act → World → Prop) : List (Bool × Oper) → Act → World → Prop
  | [], a, w => K a w
  | (true, o) :: r, a, w => ∃ v, (o.guard = none ∧ ∀ w, S w → (execOp a.eval o).run P w = .ok (.value v) w) ∧ wpMix P S K r (a.put o.dst v) w
  | (false, o) :: r, a, w => o.guard = none ∧ ((∃ f args, (execOp a.eval o).run P w = .ok (.enter f args) w ∧ Calls P f args w fun e w' => ∃ u, e = .returned u ∧ S w' ∧ wpMix P S K r (a.put o.dst u) w') ∨
      (∃ v w', (execOp a.eval o).run P w = .ok (.value v) w' ∧ S w' ∧ wpMix P S K r (a.put o.dst v) w'))
theorem mix_nil {K : Act → World → Prop} {a : Act} {w : World} (h : K a w) : wpMix P S K [] a w := h
theorem mix_val {K : Act → World → Prop} {o : Oper} {r : List (Bool × Oper)} {v : Value} {a : Act} {w : World} (hg : o.guard = none) (hr : ∀ w, S w → (execOp a.eval o).run P w = .ok (.value v) w) (h : wpMix P S K r (a.put o.dst v) w) : wpMix P S K ((true, o) :: r) a w := ⟨v, ⟨hg, hr⟩, h⟩
theorem mix_load_mid {K : Act → World → Prop} {a : Act} {w : World} {o : Oper} {r : List (Bool × Oper)} (hg : o.guard = none) (ty : TypeId) (x : Operand) (ho : o.op = .load ty x)
    (b off : Nat) (hx : a.eval x = .pointer (some ⟨b, off, none⟩)) (cs : List Value) (d : TypeDesc) (hc : ∀ w, S w → w.rangeAt b off cs)
    (hu : P.underlying ty = some d) (hd : d.isRow = true) (hi : (P.info? ty).map (·.size) = some cs.length)
    (h : wpMix P S K r (a.put o.dst (.agg cs.toArray)) w) : wpMix P S K ((true, o) :: r) a w := by
  refine mix_val hg (fun W hW => ?_) h
  unfold execOp
  simp only [ho, hx, Instr.loadAt, Instr.sureAddr, Sem.run_bind, Sem.run_pure, Result.andThen_ok, run_loadVar_mid W b off ty cs d (hc W hW) hu hd hi]
theorem mix_call {K : Act → World → Prop} {o : Oper} {r : List (Bool × Oper)} {f : FuncId} {args : Array Value} {a : Act} {w : World} (hg : o.guard = none) (hr : (execOp a.eval o).run P w = .ok (.enter f args) w)
    (h : Calls P f args w fun e w' => ∃ u, e = .returned u ∧ S w' ∧ wpMix P S K r (a.put o.dst u) w') : wpMix P S K ((false, o) :: r) a w := ⟨hg, .inl ⟨f, args, hr, h⟩⟩
def Region.mixB (md : Region.Mode) (ops : Array Oper) (n g : Nat) : List (Bool × Nat) → Array Bool → Bool
  | [], listed => Region.seqB md ops g n listed
  | (true, k) :: r, listed => (Region.ready md ops listed).contains k && Region.free md ops listed k && decide (k < n) && Region.mixB md ops n g r (listed.setIfInBounds k true)
  | (false, k) :: r, listed => decide (Region.ready md ops listed = [k]) && decide (k < n) && Region.mixB md ops n g r (listed.setIfInBounds k true)
def Region.mixTailB (md : Region.Mode) (ops : Array Oper) (n : Nat) (ord : List (Bool × Nat)) : Bool :=
  Region.noSelect ops && decide (n < ops.size) && Region.sinkB md ops n && Region.chainB md ops n && decide (ord.length = n) && Region.mixB md ops n (ops.size - n) ord (Array.replicate ops.size false)
theorem wpAnyHL_mix {l : List Oper} {d : Oper} {Lq : Act → World → Prop} (hl : ops = l.toArray) (hsel : Region.noSelect ops = true) (hs : Region.sinkB md ops n = true) (hc : Region.chainB md ops n = true) (hn : n < ops.size) (hQ : ∀ c (a : Act) (dst : Option Tmp) v w, Q (.panic c) (a.put dst v) w → Q (.panic c) a w) :
    ∀ (ord : List (Bool × Nat)) (listed : Array Bool) (a : Act) (w : World), HeadInv md ops n listed → Region.mixB md ops n g ord listed = true → S w → wpMix P S Lq (ord.map fun x => (x.1, l.getD x.2 d)) a w →
      wpAnyHL P md ops Q S n (fun listed' a' w' => Region.seqB md ops g n listed' = true ∧ Lq a' w') ord.length listed a w
  | [], listed, a, w, _, hB, _, h => ⟨hB, h⟩
  | (true, k) :: r, listed, a, w, inv, hB, hS, h => by
    simp only [Region.mixB, Bool.and_eq_true, decide_eq_true_eq] at hB
    obtain ⟨⟨⟨hr, hf⟩, hkn⟩, hB'⟩ := hB
    have hr' : k ∈ Region.ready md ops listed := by simpa using hr
    obtain ⟨v, ⟨hg, hy⟩, hK⟩ := h
    have hk : ops[k]? = some (l.getD k d) := by
      have hlt : k < l.length := by have := hn; rw [hl] at this; simp at this; omega
      rw [hl]
      simp [List.getD, hlt]
    exact wpAnyHL_first hk (Region.noSelect_spec hsel) hs hc hn hkn (fun listed' a' w' hL => seqB_ready hL.1) (fun c a w => hQ c a _ v w) r.length listed a w inv (Region.free_spec hk hf) hr' (.inl ⟨wanted_none hg _, hy⟩) hS
      (wpAnyHL_mix hl hsel hs hc hn hQ r _ _ _ (inv.set hr' hkn) hB' hS hK)
  | (false, k) :: r, listed, a, w, inv, hB, hS, h => by
    simp only [Region.mixB, Bool.and_eq_true, decide_eq_true_eq] at hB
    obtain ⟨⟨hr, hkn⟩, hB'⟩ := hB
    obtain ⟨hg, hcase⟩ := h
    have hk : ops[k]? = some (l.getD k d) := by
      have hlt : k < l.length := by have := hn; rw [hl] at this; simp at this; omega
      rw [hl]
      simp [List.getD, hlt]
    refine ⟨fun h0 => (by rw [hr] at h0; cases h0), fun j hj => ?_⟩
    have hj' := hj
    rw [hr] at hj
    have hji : j = k := by simpa using hj
    subst hji
    refine ⟨hkn, ?_⟩
    unfold wpOp
    simp only [hk]
    rw [if_pos (wanted_none hg _)]
    refine .inl ?_
    unfold Oper.wp
    rcases hcase with ⟨f, args, hrun, hcall⟩ | ⟨v, w', hrun, hS', h1⟩
    · rw [hrun]
      exact hcall.mono fun e w' ⟨u, he, hS', h1⟩ => by
        subst he
        exact ⟨hS', wpAnyHL_mix hl hsel hs hc hn hQ r _ _ _ (inv.set hj' hkn) hB' hS' h1⟩
    · rw [hrun]
      exact ⟨hS', wpAnyHL_mix hl hsel hs hc hn hQ r _ _ _ (inv.set hj' hkn) hB' hS' h1⟩
theorem wp_region_mix {id : Nat} {a : Act} {w : World} {l : List Oper} (n : Nat) (S : World → Prop) (ord : List (Bool × Nat)) (d : Oper) (hm : P.follows .mixedOrders = true) (hB : Region.mixTailB .any l.toArray n ord = true) (hQ : ∀ c (a : Act) (dst : Option Tmp) v w, Q (.panic c) (a.put dst v) w → Q (.panic c) a w)
    (hS : S w.drew) (h : wpMix P S (wpList P l.toArray Q (l.drop n)) (ord.map fun x => (x.1, l.getD x.2 d)) a w.drew) : (Code.region id l.toArray true).wp P Q a w := by
  simp only [Region.mixTailB, Bool.and_eq_true, decide_eq_true_eq] at hB
  obtain ⟨⟨⟨⟨⟨hsel, hn⟩, hs⟩, hc⟩, hol⟩, hmix⟩ := hB
  have inv0 : HeadInv .any l.toArray n (Array.replicate l.toArray.size false) :=
    ⟨by simp, fun j oj _ hl => (by rw [getD_replicate_false] at hl; cases hl), fun t _ ht => getD_in (by simpa using ht) (getD_replicate_false _ _)⟩
  have H := wpAnyHL_mix (P := P) (Q := Q) (md := .any) (g := l.toArray.size - n) rfl hsel hs hc hn hQ ord _ a w.drew inv0 hmix hS h
  refine wp_region_any hm ?_
  have := wpAny_of_HL (g := l.toArray.size - n) (fun listed' a' w' hL => by
    have := wpAny_of_seq (P := P) (md := .any) (Q' := Q) (l.drop n) n listed' a' w' (fun j => by simp [List.getElem?_drop]) (by simpa using hL.1) hL.2
    simpa using this) _ _ a w.drew H
  rw [hol, show n + (l.toArray.size - n) = l.toArray.size by omega] at this
  exact this
end
end Go.Proofs.YthiackegnpnmbaaGreat

