/-
  A region that draws its order, one operation of which (number m) writes: before it S0 holds, behind it S1; every other operation of the head yields ONE value in every world that meets S0 or S1 and keeps each. Whatever the order, the slots end as in the order of the text, and S1 holds behind the head. After Stable.
-/
import Derived.Test.YtbjagceopgofiaaDoorStable
import Derived.Deep.MidRow
namespace Go.Proofs.YtbjagceopgofiaaDoor
section
variable {P : Program} {ops : Array Oper} {md : Region.Mode} {S0 S1 : World → Prop} {m : Nat}

def Ph (S0 S1 : World → Prop) (m : Nat) (listed : Array Bool) (w : World) : Prop := if listed.getD m false = true then S1 w else S0 w
def YieldsT (P : Program) (ops : Array Oper) (S0 S1 : World → Prop) (m i : Nat) (o : Oper) (v : Value) (a : Act) : Prop :=
  (Region.wanted o (yielded ops a.tmps) = true ∧ (if i = m then ∀ w, S0 w → ResS P S1 v ((execOp a.eval o).run P w) else (∀ w, S0 w → ResS P S0 v ((execOp a.eval o).run P w)) ∧ (∀ w, S1 w → ResS P S1 v ((execOp a.eval o).run P w)))) ∨
  (Region.wanted o (yielded ops a.tmps) = false ∧ v = undef ∧ i ≠ m)
theorem YieldsT.of_same {i : Nat} {o : Oper} {v : Value} {a a' : Act} (hy : YieldsT P ops S0 S1 m i o v a) (he : execOp a'.eval o = execOp a.eval o)
    (hw : Region.wanted o (yielded ops a'.tmps) = Region.wanted o (yielded ops a.tmps)) : YieldsT P ops S0 S1 m i o v a' := by
  unfold YieldsT at *
  rw [he, hw]
  exact hy
def wpKeepT (P : Program) (ops : Array Oper) (S0 S1 : World → Prop) (m : Nat) (Q : Act → Prop) : Nat → List Oper → Act → Prop
  | _, [], a => Q a
  | k, o :: rest, a => ∃ v, YieldsT P ops S0 S1 m k o v a ∧ wpKeepT P ops S0 S1 m Q (k + 1) rest (a.put o.dst v)
def kOpT (P : Program) (ops : Array Oper) (S0 S1 : World → Prop) (m i : Nat) (K : Act → Prop) (a : Act) : Prop :=
  match ops[i]? with
  | none => K a
  | some o => ∃ v, YieldsT P ops S0 S1 m i o v a ∧ K (a.put o.dst v)
theorem kOpT_mono {i : Nat} {a : Act} {K K' : Act → Prop} (h : ∀ a, K a → K' a) (hh : kOpT P ops S0 S1 m i K a) : kOpT P ops S0 S1 m i K' a := by
  unfold kOpT at *
  split
  · rename_i ho
    simp only [ho] at hh
    exact h _ hh
  · rename_i o ho
    simp only [ho] at hh
    obtain ⟨v, h1, h2⟩ := hh
    exact ⟨v, h1, h _ h2⟩
theorem un_lt {listed : Array Bool} {i : Nat} (h : listed.getD i true = false) : i < listed.size := by
  simp [Array.getD] at h
  exact h.1
theorem Ph.at_m {listed : Array Bool} {w : World} (hun : listed.getD m true = false) : (Ph S0 S1 m listed w ↔ S0 w) ∧ (Ph S0 S1 m (listed.setIfInBounds m true) w ↔ S1 w) := by
  have hl := un_lt hun
  have h1 : listed.getD m false = false := by simpa [Array.getD, hl] using hun
  have h2 : (listed.setIfInBounds m true).getD m false = true := by simp [Array.getD, hl]
  unfold Ph
  rw [h1, h2]
  simp
theorem Ph.other {listed : Array Bool} {w : World} {i : Nat} (hi : i ≠ m) : Ph S0 S1 m (listed.setIfInBounds i true) w ↔ Ph S0 S1 m listed w := by
  unfold Ph
  have : (listed.setIfInBounds i true).getD m false = listed.getD m false := by
    simp only [Array.getD, Array.size_setIfInBounds]
    split
    · rename_i h
      simp [h, hi]
    · rfl
  rw [this]
theorem wpOp_of_kOpT {i : Nat} {a : Act} {w : World} {listed : Array Bool} {K : Act → Prop} {K' : Act → World → Prop} {Q' : Exit → Act → World → Prop} (hun : listed.getD i true = false) {oi : Oper} (ho : ops[i]? = some oi)
    (h : ∀ a w, Ph S0 S1 m (listed.setIfInBounds i true) w → K a → K' a w) (hS : Ph S0 S1 m listed w) (hh : kOpT P ops S0 S1 m i K a) : wpOp P ops Q' i K' a w := by
  unfold kOpT at hh
  unfold wpOp
  simp only [ho] at hh ⊢
  obtain ⟨v, hy, hk⟩ := hh
  rcases hy with ⟨hw, hv⟩ | ⟨hw, rfl, him⟩
  · simp only [hw, if_true]
    refine .inl ?_
    have hr : ResS P (Ph S0 S1 m (listed.setIfInBounds i true)) v ((execOp a.eval oi).run P w) := by
      by_cases him : i = m
      · subst him
        rw [if_pos rfl] at hv
        have := hv w ((Ph.at_m hun).1.1 hS)
        have e : Ph S0 S1 i (listed.setIfInBounds i true) = S1 := funext fun w => propext (Ph.at_m hun).2
        rw [e]
        exact this
      · rw [if_neg him] at hv
        have e : Ph S0 S1 m (listed.setIfInBounds i true) = Ph S0 S1 m listed := funext fun w => propext (Ph.other him)
        rw [e]
        by_cases hl : listed.getD m false = true
        · have e2 : Ph S0 S1 m listed = S1 := funext fun w => by unfold Ph; rw [if_pos hl]
          rw [e2] at hS ⊢
          exact hv.2 w hS
        · have e2 : Ph S0 S1 m listed = S0 := funext fun w => by unfold Ph; rw [if_neg hl]
          rw [e2] at hS ⊢
          exact hv.1 w hS
    unfold Oper.wp
    generalize (execOp a.eval oi).run P w = r at *
    cases r with
    | ok n w' =>
      cases n <;> simp only [ResS] at hr <;> simp only [Oper.upon]
      case value u => obtain ⟨rfl, hs⟩ := hr; exact h _ _ hs hk
      case skip => obtain ⟨rfl, hs⟩ := hr; exact h _ _ hs hk
      case enter f args => exact hr.mono fun e w'' ⟨he, hs⟩ => by subst he; exact h _ _ hs hk
    | halt x w' => simp only [ResS] at hr
  · simp only [hw]
    exact h _ _ ((Ph.other him).2 hS) hk
theorem kOpT_put {i j : Nat} {oi oj : Oper} {v : Value} (hj : ops[j]? = some oj) (hap : oi.apart ops oj = true)
    (hsi : ∀ cs b, oi.op ≠ .select cs b) (hsj : ∀ cs b, oj.op ≠ .select cs b) {K : Act → Prop} {a : Act}
    (hy : YieldsT P ops S0 S1 m i oi v a) (h : kOpT P ops S0 S1 m j K (a.put oi.dst v)) :
    kOpT P ops S0 S1 m j (fun a' => YieldsT P ops S0 S1 m i oi v a' ∧ K (a'.put oi.dst v)) a := by
  obtain ⟨h1, h2, h3⟩ := Oper.apart_spec hap
  unfold kOpT at *
  simp only [hj] at *
  obtain ⟨u, hu, hk⟩ := h
  refine ⟨u, hu.of_same (execOp_put oj hsj a oi.dst v h1).symm (wanted_put oj a oi.dst v h1).symm, hy.of_same (execOp_put oi hsi a oj.dst u h3) (wanted_put oi a oj.dst u h3), ?_⟩
  rw [← Act.put_comm a v u h2]
  exact hk
def wpAnyT (P : Program) (md : Region.Mode) (ops : Array Oper) (S0 S1 : World → Prop) (m n : Nat) (L : Array Bool → Act → Prop) : Nat → Array Bool → Act → Prop
  | 0, listed, a => L listed a
  | f + 1, listed, a =>
    Region.ready md ops listed ≠ [] ∧ ∀ i ∈ Region.ready md ops listed, i < n ∧ kOpT P ops S0 S1 m i (wpAnyT P md ops S0 S1 m n L f (listed.setIfInBounds i true)) a
theorem wpAny_of_headT {n g : Nat} {L : Array Bool → Act → Prop} {Q' : Exit → Act → World → Prop} (hL : ∀ listed a w, Ph S0 S1 m listed w → L listed a → wpAny P md ops Q' g listed a w) :
    ∀ (f : Nat) (listed : Array Bool) (a : Act) (w : World), Ph S0 S1 m listed w → wpAnyT P md ops S0 S1 m n L f listed a → wpAny P md ops Q' (f + g) listed a w
  | 0, listed, a, w, hS, h => by rw [Nat.zero_add]; exact hL _ _ _ hS h
  | f + 1, listed, a, w, hS, h => by
    rw [show f + 1 + g = (f + g) + 1 by omega]
    refine ⟨fun h0 => absurd h0 h.1, fun i hi => ?_⟩
    obtain ⟨hun, oi, hoi, _⟩ := mem_ready.1 hi
    exact wpOp_of_kOpT hun hoi (fun a' w' hs h' => wpAny_of_headT hL f _ a' w' hs h') hS (h.2 i hi).2
theorem wpAnyT_first {n i : Nat} {oi : Oper} {v : Value} {L : Array Bool → Act → Prop} (hi : ops[i]? = some oi) (hsel : ∀ (j : Nat) (o : Oper) cs b, ops[j]? = some o → o.op ≠ .select cs b)
    (hs : Region.sinkB md ops n = true) (hc : Region.chainB md ops n = true) (hn : n < ops.size) (hin : i < n)
    (hdone : ∀ listed a, L listed a → ∀ j ∈ Region.ready md ops listed, n ≤ j) :
    ∀ (f : Nat) (listed : Array Bool) (a : Act), HeadInv md ops n listed →
      (∀ j oj, ops[j]? = some oj → j ≠ i → listed.getD j true = false → (∀ e ∈ oj.after, Region.binds md e = true → e.on ≠ i) → oi.apart ops oj = true) →
      i ∈ Region.ready md ops listed → YieldsT P ops S0 S1 m i oi v a →
      wpAnyT P md ops S0 S1 m n L f (listed.setIfInBounds i true) (a.put oi.dst v) → wpAnyT P md ops S0 S1 m n L (f + 1) listed a := by
  intro f
  induction f with
  | zero =>
    intro listed a inv _ hr hy H
    have hun := (mem_ready.1 hr).1
    refine ⟨fun h => (by rw [h] at hr; cases hr), fun j hj => ?_⟩
    have hjn : j < n := by
      rcases Nat.lt_or_ge j n with h | h
      · exact h
      · exact absurd hj (tail_waits hs hc hn inv _ i rfl hin hun j h)
    refine ⟨hjn, ?_⟩
    by_cases hji : j = i
    · subst hji
      unfold kOpT
      simp only [hi]
      exact ⟨v, hy, H⟩
    · have := hdone _ _ H j (ready_mono hj hji)
      omega
  | succ f ih =>
    intro listed a inv hfree hr hy H
    have hun := (mem_ready.1 hr).1
    refine ⟨fun h => (by rw [h] at hr; cases hr), fun j hj => ?_⟩
    have hjn : j < n := by
      rcases Nat.lt_or_ge j n with h | h
      · exact h
      · exact absurd hj (tail_waits hs hc hn inv _ i rfl hin hun j h)
    refine ⟨hjn, ?_⟩
    by_cases hji : j = i
    · subst hji
      unfold kOpT
      simp only [hi]
      exact ⟨v, hy, H⟩
    · have h1 := (H.2 j (ready_mono hj hji)).2
      obtain ⟨hjun, oj, hoj, hall⟩ := mem_ready.1 hj
      have hnot : ∀ e ∈ oj.after, Region.binds md e = true → e.on ≠ i := fun e he hb heq => by
        have h1 := hall e he hb
        rw [heq, getD_both hun] at h1
        cases h1
      have h2 := kOpT_put hoj (hfree j oj hoj hji hjun hnot) (fun cs b => hsel i oi cs b hi) (fun cs b => hsel j oj cs b hoj) hy h1
      have hfree' : ∀ k ok, ops[k]? = some ok → k ≠ i → (listed.setIfInBounds j true).getD k true = false →
          (∀ e ∈ ok.after, Region.binds md e = true → e.on ≠ i) → oi.apart ops ok = true := fun k ok hk hki hun hno => by
        refine hfree k ok hk hki ?_ hno
        by_cases hjk : j = k
        · subst hjk; exact hjun
        · rw [getD_set_ne true hjk] at hun; exact hun
      refine kOpT_mono (fun a' h3 => ih (listed.setIfInBounds j true) a' (inv.set hj hjn) hfree' (ready_mono hr (Ne.symm hji)) h3.1 ?_) h2
      rw [Array.setIfInBounds_comm _ _ hji]
      exact h3.2
theorem wpAnyT_lex {n g : Nat} {Lq : Act → Prop} (hmn : m < n) (hsel : Region.noSelect ops = true) (hs : Region.sinkB md ops n = true) (hc : Region.chainB md ops n = true) (hn : n < ops.size) :
    ∀ (l : List Oper) (k : Nat) (listed : Array Bool) (a : Act), (∀ j, j < l.length → l[j]? = ops[k + j]?) → k + l.length = n → HeadInv md ops n listed → (∀ j, j < k → listed.getD j false = true) →
    Region.lexHead md ops g l.length k listed = true → wpKeepT P ops S0 S1 m Lq k l a →
    wpAnyT P md ops S0 S1 m n (fun listed' a' => Region.seqB md ops g n listed' = true ∧ listed'.getD m false = true ∧ Lq a') l.length listed a
  | [], k, listed, a, _, hk, _, hd, hB, h => by
    have : k = n := by simpa using hk
    subst this
    exact ⟨by simpa [Region.lexHead] using hB, hd m hmn, h⟩
  | o :: l, k, listed, a, hl, hk, inv, hd, hB, h => by
    have h0 : ops[k]? = some o := by simpa using (hl 0 (by simp)).symm
    simp only [List.length_cons, Region.lexHead, Bool.and_eq_true] at hB
    obtain ⟨⟨hr, hf⟩, hB'⟩ := hB
    have hkn : k < n := by simp only [List.length_cons] at hk; omega
    have hr' : k ∈ Region.ready md ops listed := by simpa using hr
    have hkl := un_lt (mem_ready.1 hr').1
    obtain ⟨v, hy, hK⟩ := h
    exact wpAnyT_first h0 (Region.noSelect_spec hsel) hs hc hn hkn (fun listed' a' hL => seqB_ready hL.1) l.length listed a inv (Region.free_spec h0 hf) hr' hy
      (wpAnyT_lex hmn hsel hs hc hn l (k + 1) _ _ (fun j hj => by have := hl (j + 1) (by simp; omega); simpa [Nat.add_assoc, Nat.add_comm 1 j] using this) (by simp only [List.length_cons] at hk; omega) (inv.set hr' hkn)
        (fun j hj => by
          by_cases hjk : j = k
          · subst hjk; simp [Array.getD, hkl]
          · have h1 := hd j (by omega)
            simp only [Array.getD, Array.size_setIfInBounds] at h1 ⊢
            split at h1
            · rename_i hjl
              simp only [hjl, dite_true]
              simpa [Array.getElem_setIfInBounds, hjl, Ne.symm hjk] using h1
            · cases h1) hB' hK)
/-- THE REGION: number m writes, the operations from number n on stand in one order. -/
theorem wp_region_two_tail {id : Nat} {Q : Exit → Act → World → Prop} {a : Act} {w : World} {l : List Oper} (n m : Nat) (hmn : m < n) (S0 S1 : World → Prop) (hm : P.follows .mixedOrders = true) (hB : Region.lexTailB .any l.toArray n = true)
    (hS : S0 w.drew) (h : wpKeepT P l.toArray S0 S1 m (fun a' => ∀ w', S1 w' → wpList P l.toArray Q (l.drop n) a' w') 0 (l.take n) a) : (Code.region id l.toArray true).wp P Q a w := by
  simp only [Region.lexTailB, Bool.and_eq_true, decide_eq_true_eq] at hB
  obtain ⟨⟨⟨⟨hsel, hn⟩, hs⟩, hc⟩, hlex⟩ := hB
  have hn' : n < l.length := by simpa using hn
  have htl : (l.take n).length = n := by simp; omega
  have hdl : (l.drop n).length = l.toArray.size - n := by simp
  have inv0 : HeadInv .any l.toArray n (Array.replicate l.toArray.size false) :=
    ⟨by simp, fun j oj _ hl => (by rw [getD_replicate_false] at hl; cases hl), fun t _ ht => getD_in (by simpa using ht) (getD_replicate_false _ _)⟩
  have H := wpAnyT_lex (md := .any) (S0 := S0) (S1 := S1) (g := l.toArray.size - n) hmn hsel hs hc hn (l.take n) 0 _ a (fun j hj => by
    have hj' : j < n := by rw [htl] at hj; exact hj
    simp [hj']) (by simpa using htl) inv0 (fun j hj => by omega) (by rw [htl]; exact hlex) h
  refine wp_region_any hm ?_
  have hS' : Ph S0 S1 m (Array.replicate l.toArray.size false) { w with drawn := w.drawn + 1 } := by
    unfold Ph
    rw [if_neg (by rw [getD_replicate_false]; simp)]
    exact hS
  have := wpAny_of_headT (Q' := Q) (g := l.toArray.size - n) (fun listed a' w' hs' hL => by
    have hs1 : S1 w' := by unfold Ph at hs'; rw [if_pos hL.2.1] at hs'; exact hs'
    have := wpAny_of_seq (md := .any) (Q' := Q) (l.drop n) n listed a' w' (fun j => by simp [List.getElem?_drop]) (by rw [hdl]; exact hL.1) (hL.2.2 w' hs1)
    rwa [hdl] at this) _ _ a { w with drawn := w.drawn + 1 } hS' H
  rw [htl, show n + (l.toArray.size - n) = l.toArray.size by omega] at this
  exact this
/-! ### The steps of a walk -/
theorem wpKeepT_nil {k : Nat} {Q : Act → Prop} {a : Act} (h : Q a) : wpKeepT P ops S0 S1 m Q k [] a := h
theorem two_val {k : Nat} {Q : Act → Prop} {a : Act} {o : Oper} {rest : List Oper} {v : Value} (hk : k ≠ m) (hg : o.guard = none) (hr : ∀ w, S0 w ∨ S1 w → (execOp a.eval o).run P w = .ok (.value v) w)
    (h : wpKeepT P ops S0 S1 m Q (k + 1) rest (a.put o.dst v)) : wpKeepT P ops S0 S1 m Q k (o :: rest) a :=
  ⟨v, .inl ⟨by simp [Region.wanted, hg], by rw [if_neg hk]; exact ⟨fun w hS => by rw [hr w (.inl hS)]; exact ⟨rfl, hS⟩, fun w hS => by rw [hr w (.inr hS)]; exact ⟨rfl, hS⟩⟩⟩, h⟩
theorem two_load_mid {k : Nat} {Q : Act → Prop} {a : Act} {op : Oper} {rest : List Oper} (hk : k ≠ m) (hg : op.guard = none) (ty : TypeId) (x : Operand) (ho : op.op = .load ty x)
    (b o : Nat) (hx : a.eval x = .pointer (some ⟨b, o, none⟩)) (cs : List Value) (d : TypeDesc) (hS : ∀ w, S0 w ∨ S1 w → w.rangeAt b o cs)
    (hu : P.underlying ty = some d) (hd : d.isRow = true) (hi : (P.info? ty).map (·.size) = some cs.length)
    (h : wpKeepT P ops S0 S1 m Q (k + 1) rest (a.put op.dst (.agg cs.toArray))) : wpKeepT P ops S0 S1 m Q k (op :: rest) a :=
  two_val hk hg (fun w hw => by
    unfold execOp
    simp only [ho, hx, Instr.loadAt, Instr.sureAddr, Sem.run_bind, Sem.run_pure, Result.andThen_ok, run_loadVar_mid w b o ty cs d (hS w hw) hu hd hi]) h
/-- The operation that writes. -/
theorem two_write {Q : Act → Prop} {a : Act} {o : Oper} {rest : List Oper} (hg : o.guard = none) (hr : ∀ w, S0 w → ∃ w', (execOp a.eval o).run P w = .ok .skip w' ∧ S1 w')
    (h : wpKeepT P ops S0 S1 m Q (m + 1) rest (a.put o.dst undef)) : wpKeepT P ops S0 S1 m Q m (o :: rest) a :=
  ⟨undef, .inl ⟨by simp [Region.wanted, hg], by rw [if_pos rfl]; intro w hS; obtain ⟨w', e, h1⟩ := hr w hS; rw [e]; exact ⟨rfl, h1⟩⟩, h⟩
end
#print axioms wp_region_two_tail
end Go.Proofs.YtbjagceopgofiaaDoor
