/-
 A region that draws its order, of values and of calls, in an order of the prover's; the last operations in their one order. A region as in Mx, with one store (number s) among the operations ahead of the tail: the condition S is asked only while that store has not come up. A region as in Mf, in which one alloc (number x) may come up at any time among the calls.
-/
import Derived.StillTail
import Derived.OrdersHeld
import Derived.Deep.MidRow
import Derived.Test.YtaddcadapbpkfaaGreatDoorR01
namespace Go.Proofs.YtaddcadapbpkfaaGreatDoor
section
variable {P : Program} {ops : Array Oper} {md : Region.Mode} {S : World -> Prop} {Q : Exit -> Act -> World -> Prop} {n g : Nat}
def wpAnyHL (P : Program) (md : Region.Mode) (ops : Array Oper) (Q : Exit -> Act -> World -> Prop) (S : World -> Prop) (n : Nat) (L : Array Bool -> Act -> World -> Prop) : Nat -> Array Bool -> Act -> World -> Prop
 | 0,listed,a,w => L listed a w
 | f + 1,listed,a,w =>
   Region.ready md ops listed ≠ [] /\ ∀ i ∈ Region.ready md ops listed,i < n /\ wpOp P ops Q i (fun a' w' => S w' /\ wpAnyHL P md ops Q S n L f (listed.setIfInBounds i true) a' w') a w
theorem wpAny_of_HL {L : Array Bool -> Act -> World -> Prop} (hL : ∀ listed a w,L listed a w -> wpAny P md ops Q g listed a w) :
 ∀ (f : Nat) (listed : Array Bool) (a : Act) (w : World),wpAnyHL P md ops Q S n L f listed a w -> wpAny P md ops Q (f + g) listed a w
 | 0,listed,a,w,h => by rw [Nat.zero_add];exact hL _ _ _ h
 | f + 1,listed,a,w,h => by
   rw [show f + 1 + g = (f + g) + 1 by omega]
   exact ⟨fun h0 => absurd h0 h.1,fun i hi => wpOp_mono (fun a' w' h' => wpAny_of_HL hL f _ a' w' h'.2) (h.2 i hi).2⟩
theorem wpAnyHL_first {i : Nat} {oi : Oper} {v : Value} {L : Array Bool -> Act -> World -> Prop} (hi : ops[i]? = some oi) (hsel : ∀ (j : Nat) (o : Oper) cs b,ops[j]? = some o -> o.op ≠ .select cs b)
 (hs : Region.sinkB md ops n = true) (hc : Region.chainB md ops n = true) (hn : n < ops.size) (hin : i < n)
 (hdone : ∀ listed a w,L listed a w -> ∀ j ∈ Region.ready md ops listed,n <= j)
 (hQ : ∀ c a w,Q (.panic c) (a.put oi.dst v) w -> Q (.panic c) a w) :
 ∀ (f : Nat) (listed : Array Bool) (a : Act) (w : World),HeadInv md ops n listed ->
  (∀ j oj,ops[j]? = some oj -> j ≠ i -> listed.getD j true = false -> (∀ e ∈ oj.after,Region.binds md e = true -> e.on ≠ i) -> oi.apart ops oj = true) ->
  i ∈ Region.ready md ops listed -> YieldsIf P ops S oi v a -> S w ->
  wpAnyHL P md ops Q S n L f (listed.setIfInBounds i true) (a.put oi.dst v) w -> wpAnyHL P md ops Q S n L (f + 1) listed a w := by
 intro f
 induction f with
 | zero =>
   intro listed a w inv _ hr hy hS H
   have hun := (mem_ready.1 hr).1
   refine ⟨fun h => (by rw [h] at hr;cases hr),fun j hj => ?_⟩
   have hjn : j < n := by
    rcases Nat.lt_or_ge j n with h | h
    . exact h
    . exact absurd hj (tail_waits hs hc hn inv _ i rfl hin hun j h)
   refine ⟨hjn,?_⟩
   by_cases hji : j = i
   . subst hji
     exact hy.wpOp hi hS ⟨hS,H⟩
   . have := hdone _ _ _ H j (ready_mono hj hji)
     omega
 | succ f ih =>
   intro listed a w inv hfree hr hy hS H
   have hun := (mem_ready.1 hr).1
   refine ⟨fun h => (by rw [h] at hr;cases hr),fun j hj => ?_⟩
   have hjn : j < n := by
    rcases Nat.lt_or_ge j n with h | h
    . exact h
    . exact absurd hj (tail_waits hs hc hn inv _ i rfl hin hun j h)
   refine ⟨hjn,?_⟩
   by_cases hji : j = i
   . subst hji
     exact hy.wpOp hi hS ⟨hS,H⟩
   . have h1 := (H.2 j (ready_mono hj hji)).2
     obtain ⟨hjun,oj,hoj,hall⟩ := mem_ready.1 hj
     have hnot : ∀ e ∈ oj.after,Region.binds md e = true -> e.on ≠ i := fun e he hb heq => by
      have h1 := hall e he hb
      rw [heq,getD_both hun] at h1
      cases h1
     have h2 := wpOp_putIf hoj (hfree j oj hoj hji hjun hnot) (fun cs b => hsel i oi cs b hi) (fun cs b => hsel j oj cs b hoj) hQ hy h1
     have hfree' : ∀ k ok,ops[k]? = some ok -> k ≠ i -> (listed.setIfInBounds j true).getD k true = false ->
      (∀ e ∈ ok.after,Region.binds md e = true -> e.on ≠ i) -> oi.apart ops ok = true := fun k ok hk hki hun hno => by
      refine hfree k ok hk hki ?_ hno
      by_cases hjk : j = k
      . subst hjk;exact hjun
      . rw [getD_set_ne true hjk] at hun;exact hun
     refine wpOp_mono (fun a' w' h3 => ⟨h3.2.1,ih (listed.setIfInBounds j true) a' w' (inv.set hj hjn) hfree' (ready_mono hr (Ne.symm hji)) h3.1 h3.2.1 ?_⟩) h2
     rw [Array.setIfInBounds_comm _ _ hji]
     exact h3.2.2
theorem qaO {o : Oper} (hg : o.guard = none) (t : Nat -> Option Bool) : Region.wanted o t = true := by simp [Region.wanted,hg]
def wpMix (P : Program) (S : World -> Prop) (K : Act -> World -> Prop) : List (Bool × Oper) -> Act -> World -> Prop
 | [],a,w => K a w
 | (true,o) :: r,a,w => ∃ v,(o.guard = none /\ ∀ w,S w -> (execOp a.eval o).run P w = .ok (.value v) w) /\ wpMix P S K r (a.put o.dst v) w
 | (false,o) :: r,a,w => o.guard = none /\ ((∃ f args,(execOp a.eval o).run P w = .ok (.enter f args) w /\ Calls P f args w fun e w' => ∃ u,e = .returned u /\ S w' /\ wpMix P S K r (a.put o.dst u) w') \/
     (∃ v w',(execOp a.eval o).run P w = .ok (.value v) w' /\ S w' /\ wpMix P S K r (a.put o.dst v) w'))
theorem mix_nil {K : Act -> World -> Prop} {a : Act} {w : World} (h : K a w) : wpMix P S K [] a w := h
theorem qfF {K : Act -> World -> Prop} {o : Oper} {r : List (Bool × Oper)} {v : Value} {a : Act} {w : World} (hg : o.guard = none) (hr : ∀ w,S w -> (execOp a.eval o).run P w = .ok (.value v) w) (h : wpMix P S K r (a.put o.dst v) w) : wpMix P S K ((true,o) :: r) a w := ⟨v,⟨hg,hr⟩,h⟩
theorem mix_load_mid {K : Act -> World -> Prop} {a : Act} {w : World} {o : Oper} {r : List (Bool × Oper)} (hg : o.guard = none) (ty : TypeId) (x : Operand) (ho : o.op = .load ty x)
 (b off : Nat) (hx : a.eval x = .pointer (some ⟨b,off,none⟩)) (cs : List Value) (d : TypeDesc) (hc : ∀ w,S w -> w.rangeAt b off cs)
 (hu : P.underlying ty = some d) (hd : d.isRow = true) (hi : (P.info? ty).map (·.size) = some cs.length)
 (h : wpMix P S K r (a.put o.dst (.agg cs.toArray)) w) : wpMix P S K ((true,o) :: r) a w := by
 refine qfF hg (fun W hW => ?_) h
 unfold execOp
 simp only [ho,hx,Instr.loadAt,Instr.sureAddr,Sem.run_bind,Sem.run_pure,Result.andThen_ok,run_loadVar_mid W b off ty cs d (hc W hW) hu hd hi]
theorem mix_call {K : Act -> World -> Prop} {o : Oper} {r : List (Bool × Oper)} {f : FuncId} {args : Array Value} {a : Act} {w : World} (hg : o.guard = none) (hr : (execOp a.eval o).run P w = .ok (.enter f args) w)
 (h : Calls P f args w fun e w' => ∃ u,e = .returned u /\ S w' /\ wpMix P S K r (a.put o.dst u) w') : wpMix P S K ((false,o) :: r) a w := ⟨hg,.inl ⟨f,args,hr,h⟩⟩
theorem mix_step {K : Act -> World -> Prop} {o : Oper} {r : List (Bool × Oper)} {v : Value} {w' : World} {a : Act} {w : World} (hg : o.guard = none) (hr : (execOp a.eval o).run P w = .ok (.value v) w') (hS : S w')
 (h : wpMix P S K r (a.put o.dst v) w') : wpMix P S K ((false,o) :: r) a w := ⟨hg,.inr ⟨v,w',hr,hS,h⟩⟩
def Region.mixB (md : Region.Mode) (ops : Array Oper) (n g : Nat) : List (Bool × Nat) -> Array Bool -> Bool
 | [],listed => Region.seqB md ops g n listed
 | (true,k) :: r,listed => (Region.ready md ops listed).contains k && Region.free md ops listed k && decide (k < n) && Region.mixB md ops n g r (listed.setIfInBounds k true)
 | (false,k) :: r,listed => decide (Region.ready md ops listed = [k]) && decide (k < n) && Region.mixB md ops n g r (listed.setIfInBounds k true)
def Region.mixTailB (md : Region.Mode) (ops : Array Oper) (n : Nat) (ord : List (Bool × Nat)) : Bool :=
 Region.noSelect ops && decide (n < ops.size) && Region.sinkB md ops n && Region.chainB md ops n && decide (ord.length = n) && Region.mixB md ops n (ops.size - n) ord (Array.replicate ops.size false)
theorem qeF {l : List Oper} {d : Oper} {Lq : Act -> World -> Prop} (hl : ops = l.toArray) (hsel : Region.noSelect ops = true) (hs : Region.sinkB md ops n = true) (hc : Region.chainB md ops n = true) (hn : n < ops.size) (hQ : ∀ c (a : Act) (dst : Option Tmp) v w,Q (.panic c) (a.put dst v) w -> Q (.panic c) a w) :
 ∀ (ord : List (Bool × Nat)) (listed : Array Bool) (a : Act) (w : World),HeadInv md ops n listed -> Region.mixB md ops n g ord listed = true -> S w -> wpMix P S Lq (ord.map fun x => (x.1,l.getD x.2 d)) a w ->
  wpAnyHL P md ops Q S n (fun listed' a' w' => Region.seqB md ops g n listed' = true /\ Lq a' w') ord.length listed a w
 | [],listed,a,w,_,hB,_,h => ⟨hB,h⟩
 | (true,k) :: r,listed,a,w,inv,hB,hS,h => by
   simp only [Region.mixB,Bool.and_eq_true,decide_eq_true_eq] at hB
   obtain ⟨⟨⟨hr,hf⟩,hkn⟩,hB'⟩ := hB
   have hr' : k ∈ Region.ready md ops listed := by simpa using hr
   obtain ⟨v,⟨hg,hy⟩,hK⟩ := h
   have hk : ops[k]? = some (l.getD k d) := by
    have hlt : k < l.length := by have := hn;rw [hl] at this;simp at this;omega
    rw [hl]
    simp [List.getD,hlt]
   exact wpAnyHL_first hk (Region.noSelect_spec hsel) hs hc hn hkn (fun listed' a' w' hL => seqB_ready hL.1) (fun c a w => hQ c a _ v w) r.length listed a w inv (Region.free_spec hk hf) hr' (.inl ⟨qaO hg _,hy⟩) hS
    (qeF hl hsel hs hc hn hQ r _ _ _ (inv.set hr' hkn) hB' hS hK)
 | (false,k) :: r,listed,a,w,inv,hB,hS,h => by
   simp only [Region.mixB,Bool.and_eq_true,decide_eq_true_eq] at hB
   obtain ⟨⟨hr,hkn⟩,hB'⟩ := hB
   obtain ⟨hg,hcase⟩ := h
   have hk : ops[k]? = some (l.getD k d) := by
    have hlt : k < l.length := by have := hn;rw [hl] at this;simp at this;omega
    rw [hl]
    simp [List.getD,hlt]
   refine ⟨fun h0 => (by rw [hr] at h0;cases h0),fun j hj => ?_⟩
   have hj' := hj
   rw [hr] at hj
   have hji : j = k := by simpa using hj
   subst hji
   refine ⟨hkn,?_⟩
   unfold wpOp
   simp only [hk]
   rw [if_pos (qaO hg _)]
   refine .inl ?_
   unfold Oper.wp
   rcases hcase with ⟨f,args,hrun,hcall⟩ | ⟨v,w',hrun,hS',h1⟩
   . rw [hrun]
     exact hcall.mono fun e w' ⟨u,he,hS',h1⟩ => by
      subst he
      exact ⟨hS',qeF hl hsel hs hc hn hQ r _ _ _ (inv.set hj' hkn) hB' hS' h1⟩
   . rw [hrun]
     exact ⟨hS',qeF hl hsel hs hc hn hQ r _ _ _ (inv.set hj' hkn) hB' hS' h1⟩
theorem qcY {id : Nat} {a : Act} {w : World} {l : List Oper} (n : Nat) (S : World -> Prop) (ord : List (Bool × Nat)) (d : Oper) (hm : P.follows .mixedOrders = true) (hB : Region.mixTailB .any l.toArray n ord = true) (hQ : ∀ c (a : Act) (dst : Option Tmp) v w,Q (.panic c) (a.put dst v) w -> Q (.panic c) a w)
 (hS : S w.drew) (h : wpMix P S (wpList P l.toArray Q (l.drop n)) (ord.map fun x => (x.1,l.getD x.2 d)) a w.drew) : (Code.region id l.toArray true).wp P Q a w := by
 simp only [Region.mixTailB,Bool.and_eq_true,decide_eq_true_eq] at hB
 obtain ⟨⟨⟨⟨⟨hsel,hn⟩,hs⟩,hc⟩,hol⟩,hmix⟩ := hB
 have inv0 : HeadInv .any l.toArray n (Array.replicate l.toArray.size false) :=
  ⟨by simp,fun j oj _ hl => (by rw [getD_replicate_false] at hl;cases hl),fun t _ ht => getD_in (by simpa using ht) (getD_replicate_false _ _)⟩
 have H := qeF (P := P) (Q := Q) (md := .any) (g := l.toArray.size - n) rfl hsel hs hc hn hQ ord _ a w.drew inv0 hmix hS h
 refine wp_region_any hm ?_
 have := wpAny_of_HL (g := l.toArray.size - n) (fun listed' a' w' hL => by
  have := wpAny_of_seq (P := P) (md := .any) (Q' := Q) (l.drop n) n listed' a' w' (fun j => by simp [List.getElem?_drop]) (by simpa using hL.1) hL.2
  simpa using this) _ _ a w.drew H
 rw [hol,show n + (l.toArray.size - n) = l.toArray.size by omega] at this
 exact this
end
end Go.Proofs.YtaddcadapbpkfaaGreatDoor
namespace Go.Proofs.YtaddcadapbpkfaaGreatDoor
section
variable {P : Program} {ops : Array Oper} {md : Region.Mode} {S : World -> Prop} {Q : Exit -> Act -> World -> Prop} {n g s : Nat}
def wpAnyHF (P : Program) (md : Region.Mode) (ops : Array Oper) (Q : Exit -> Act -> World -> Prop) (S : World -> Prop) (n s : Nat) (L : Array Bool -> Act -> World -> Prop) : Nat -> Array Bool -> Act -> World -> Prop
 | 0,listed,a,w => L listed a w
 | f + 1,listed,a,w =>
   Region.ready md ops listed ≠ [] /\ ∀ i ∈ Region.ready md ops listed,i < n /\ wpOp P ops Q i (fun a' w' => ((listed.setIfInBounds i true).getD s false = false -> S w') /\ wpAnyHF P md ops Q S n s L f (listed.setIfInBounds i true) a' w') a w
theorem qdX {L : Array Bool -> Act -> World -> Prop} (hL : ∀ listed a w,L listed a w -> wpAny P md ops Q g listed a w) :
 ∀ (f : Nat) (listed : Array Bool) (a : Act) (w : World),wpAnyHF P md ops Q S n s L f listed a w -> wpAny P md ops Q (f + g) listed a w
 | 0,listed,a,w,h => by rw [Nat.zero_add];exact hL _ _ _ h
 | f + 1,listed,a,w,h => by
   rw [show f + 1 + g = (f + g) + 1 by omega]
   exact ⟨fun h0 => absurd h0 h.1,fun i hi => wpOp_mono (fun a' w' h' => qdX hL f _ a' w' h'.2) (h.2 i hi).2⟩
theorem qaL {listed : Array Bool} {i k : Nat} (h : i ≠ k) : (listed.setIfInBounds i true).getD k false = listed.getD k false := getD_set_ne false h
theorem qbN {i : Nat} {oi : Oper} {v : Value} {L : Array Bool -> Act -> World -> Prop} (hi : ops[i]? = some oi) (hsel : ∀ (j : Nat) (o : Oper) cs b,ops[j]? = some o -> o.op ≠ .select cs b)
 (hs : Region.sinkB md ops n = true) (hc : Region.chainB md ops n = true) (hn : n < ops.size) (hin : i < n) (his : i ≠ s)
 (hdone : ∀ listed a w,L listed a w -> ∀ j ∈ Region.ready md ops listed,n <= j)
 (hQ : ∀ c a w,Q (.panic c) (a.put oi.dst v) w -> Q (.panic c) a w) (T : World -> Prop)
 (hT : (∀ w,T w) \/ ((∀ w,S w -> T w) /\ Region.waitsFor md ops s i = true)) :
 ∀ (f : Nat) (listed : Array Bool) (a : Act) (w : World),HeadInv md ops n listed ->
  (∀ j oj,ops[j]? = some oj -> j ≠ i -> listed.getD j true = false -> (∀ e ∈ oj.after,Region.binds md e = true -> e.on ≠ i) -> oi.apart ops oj = true) ->
  i ∈ Region.ready md ops listed -> YieldsIf P ops T oi v a -> T w -> (listed.getD s false = false -> S w) ->
  wpAnyHF P md ops Q S n s L f (listed.setIfInBounds i true) (a.put oi.dst v) w -> wpAnyHF P md ops Q S n s L (f + 1) listed a w := by
 intro f
 induction f with
 | zero =>
   intro listed a w inv _ hr hy hTw hS H
   have hun := (mem_ready.1 hr).1
   refine ⟨fun h => (by rw [h] at hr;cases hr),fun j hj => ?_⟩
   have hjn : j < n := by
    rcases Nat.lt_or_ge j n with h | h
    . exact h
    . exact absurd hj (tail_waits hs hc hn inv _ i rfl hin hun j h)
   refine ⟨hjn,?_⟩
   by_cases hji : j = i
   . subst hji
     exact hy.wpOp hi hTw ⟨fun h => hS (by rwa [qaL his] at h),H⟩
   . have := hdone _ _ _ H j (ready_mono hj hji)
     omega
 | succ f ih =>
   intro listed a w inv hfree hr hy hTw hS H
   have hun := (mem_ready.1 hr).1
   refine ⟨fun h => (by rw [h] at hr;cases hr),fun j hj => ?_⟩
   have hjn : j < n := by
    rcases Nat.lt_or_ge j n with h | h
    . exact h
    . exact absurd hj (tail_waits hs hc hn inv _ i rfl hin hun j h)
   refine ⟨hjn,?_⟩
   by_cases hji : j = i
   . subst hji
     exact hy.wpOp hi hTw ⟨fun h => hS (by rwa [qaL his] at h),H⟩
   . have h1 := (H.2 j (ready_mono hj hji)).2
     obtain ⟨hjun,oj,hoj,hall⟩ := mem_ready.1 hj
     have hnot : ∀ e ∈ oj.after,Region.binds md e = true -> e.on ≠ i := fun e he hb heq => by
      have h1 := hall e he hb
      rw [heq,getD_both hun] at h1
      cases h1
     have h2 := wpOp_putIf hoj (hfree j oj hoj hji hjun hnot) (fun cs b => hsel i oi cs b hi) (fun cs b => hsel j oj cs b hoj) hQ hy h1
     have hfree' : ∀ k ok,ops[k]? = some ok -> k ≠ i -> (listed.setIfInBounds j true).getD k true = false ->
      (∀ e ∈ ok.after,Region.binds md e = true -> e.on ≠ i) -> oi.apart ops ok = true := fun k ok hk hki hun hno => by
      refine hfree k ok hk hki ?_ hno
      by_cases hjk : j = k
      . subst hjk;exact hjun
      . rw [getD_set_ne true hjk] at hun;exact hun
     have hflag : ((listed.setIfInBounds i true).setIfInBounds j true).getD s false = (listed.setIfInBounds j true).getD s false := by
      rw [Array.setIfInBounds_comm _ _ (Ne.symm hji),qaL his]
     refine wpOp_mono (fun a' w' h3 => ?_) h2
     have hS' : (listed.setIfInBounds j true).getD s false = false -> S w' := fun h => h3.2.1 (by rw [hflag];exact h)
     have hT' : T w' := by
      rcases hT with hT | ⟨hT,hw⟩
      . exact hT w'
      . refine hT w' (hS' ?_)
        have hjs : j ≠ s := fun e => by
         subst e
         obtain ⟨os,hos,e,he,hb,hon⟩ := Region.waitsFor_spec hw
         have : os = oj := Option.some.inj (hos.symm.trans hoj)
         subst this
         exact hnot e he hb hon
        rw [qaL hjs]
        cases hls : listed.getD s false with
        | false => rfl
        | true =>
          obtain ⟨os,hos,e,he,hb,hon⟩ := Region.waitsFor_spec hw
          have := inv.closed s os hos hls e he hb
          rw [hon,getD_both hun] at this
          cases this
     refine ⟨hS',ih (listed.setIfInBounds j true) a' w' (inv.set hj hjn) hfree' (ready_mono hr (Ne.symm hji)) h3.1 hT' hS' ?_⟩
     rw [Array.setIfInBounds_comm _ _ hji]
     exact h3.2.2
def wpMixF (P : Program) (S : World -> Prop) (K : Act -> World -> Prop) : List (Nat × Oper) -> Act -> World -> Prop
 | [],a,w => K a w
 | (0,o) :: r,a,w => ∃ v,(o.guard = none /\ ∀ w,S w -> (execOp a.eval o).run P w = .ok (.value v) w) /\ wpMixF P S K r (a.put o.dst v) w
 | (1,o) :: r,a,w => ∃ v,(o.guard = none /\ ∀ w,(execOp a.eval o).run P w = .ok (.value v) w) /\ wpMixF P S K r (a.put o.dst v) w
 | (2,o) :: r,a,w => o.guard = none /\ ((∃ f args,(execOp a.eval o).run P w = .ok (.enter f args) w /\ Calls P f args w fun e w' => ∃ u,e = .returned u /\ S w' /\ wpMixF P S K r (a.put o.dst u) w') \/
     (∃ v w',(execOp a.eval o).run P w = .ok (.value v) w' /\ S w' /\ wpMixF P S K r (a.put o.dst v) w'))
 | (_,o) :: r,a,w => o.guard = none /\ ∃ w',(execOp a.eval o).run P w = .ok .skip w' /\ wpMixF P S K r (a.put o.dst undef) w'
section
variable {K : Act -> World -> Prop} {o : Oper} {r : List (Nat × Oper)} {a : Act} {w : World}
theorem qbX (h : K a w) : wpMixF P S K [] a w := h
theorem qbH {v : Value} (hg : o.guard = none) (hr : ∀ w,S w -> (execOp a.eval o).run P w = .ok (.value v) w) (h : wpMixF P S K r (a.put o.dst v) w) : wpMixF P S K ((0,o) :: r) a w := ⟨v,⟨hg,hr⟩,h⟩
theorem qaQ {v : Value} (hg : o.guard = none) (hr : ∀ w,(execOp a.eval o).run P w = .ok (.value v) w) (h : wpMixF P S K r (a.put o.dst v) w) : wpMixF P S K ((1,o) :: r) a w := ⟨v,⟨hg,hr⟩,h⟩
theorem qaP (hg : o.guard = none) (ty : TypeId) (x : Operand) (ho : o.op = .load ty x)
 (b off : Nat) (hx : a.eval x = .pointer (some ⟨b,off,none⟩)) (cs : List Value) (d : TypeDesc) (hc : ∀ w,S w -> w.rangeAt b off cs)
 (hu : P.underlying ty = some d) (hd : d.isRow = true) (hi : (P.info? ty).map (·.size) = some cs.length)
 (h : wpMixF P S K r (a.put o.dst (.agg cs.toArray)) w) : wpMixF P S K ((0,o) :: r) a w := by
 refine qbH hg (fun W hW => ?_) h
 unfold execOp
 simp only [ho,hx,Instr.loadAt,Instr.sureAddr,Sem.run_bind,Sem.run_pure,Result.andThen_ok,run_loadVar_mid W b off ty cs d (hc W hW) hu hd hi]
theorem qbF {f : FuncId} {args : Array Value} (hg : o.guard = none) (hr : (execOp a.eval o).run P w = .ok (.enter f args) w)
 (h : Calls P f args w fun e w' => ∃ u,e = .returned u /\ S w' /\ wpMixF P S K r (a.put o.dst u) w') : wpMixF P S K ((2,o) :: r) a w := ⟨hg,.inl ⟨f,args,hr,h⟩⟩
theorem mixf_store {w' : World} (hg : o.guard = none) (hr : (execOp a.eval o).run P w = .ok .skip w') (h : wpMixF P S K r (a.put o.dst undef) w') : wpMixF P S K ((3,o) :: r) a w := ⟨hg,w',hr,h⟩
end
def Region.mixFB (md : Region.Mode) (ops : Array Oper) (n g s : Nat) : List (Nat × Nat) -> Array Bool -> Bool
 | [],listed => Region.seqB md ops g n listed
 | (0,k) :: r,listed => (Region.ready md ops listed).contains k && Region.free md ops listed k && decide (k < n) && decide (k ≠ s) && Region.waitsFor md ops s k && !(listed.getD s false) && Region.mixFB md ops n g s r (listed.setIfInBounds k true)
 | (1,k) :: r,listed => (Region.ready md ops listed).contains k && Region.free md ops listed k && decide (k < n) && decide (k ≠ s) && Region.mixFB md ops n g s r (listed.setIfInBounds k true)
 | (2,k) :: r,listed => decide (Region.ready md ops listed = [k]) && decide (k < n) && Region.mixFB md ops n g s r (listed.setIfInBounds k true)
 | (_,k) :: r,listed => decide (Region.ready md ops listed = [k]) && decide (k < n) && decide (k = s) && (listed.setIfInBounds k true).getD s false && Region.mixFB md ops n g s r (listed.setIfInBounds k true)
def Region.mixFTailB (md : Region.Mode) (ops : Array Oper) (n s : Nat) (ord : List (Nat × Nat)) : Bool :=
 Region.noSelect ops && decide (n < ops.size) && Region.sinkB md ops n && Region.chainB md ops n && decide (ord.length = n) && Region.mixFB md ops n (ops.size - n) s ord (Array.replicate ops.size false)
theorem qdN {l : List Oper} {d : Oper} {k : Nat} (hl : ops = l.toArray) (hkn : k < n) (hn : n < ops.size) : ops[k]? = some (l.getD k d) := by
 have hlt : k < l.length := by rw [hl] at hn;simp at hn;omega
 rw [hl]
 simp [List.getD,hlt]
theorem qcA {l : List Oper} {d : Oper} {Lq : Act -> World -> Prop} (hl : ops = l.toArray) (hsel : Region.noSelect ops = true) (hs : Region.sinkB md ops n = true) (hc : Region.chainB md ops n = true) (hn : n < ops.size) (hQ : ∀ c (a : Act) (dst : Option Tmp) v w,Q (.panic c) (a.put dst v) w -> Q (.panic c) a w) :
 ∀ (ord : List (Nat × Nat)) (listed : Array Bool) (a : Act) (w : World),HeadInv md ops n listed -> Region.mixFB md ops n g s ord listed = true -> (listed.getD s false = false -> S w) -> wpMixF P S Lq (ord.map fun x => (x.1,l.getD x.2 d)) a w ->
  wpAnyHF P md ops Q S n s (fun listed' a' w' => Region.seqB md ops g n listed' = true /\ Lq a' w') ord.length listed a w
 | [],listed,a,w,_,hB,_,h => ⟨hB,h⟩
 | (0,k) :: r,listed,a,w,inv,hB,hS,h => by
   simp only [Region.mixFB,Bool.and_eq_true,decide_eq_true_eq,Bool.not_eq_true'] at hB
   obtain ⟨⟨⟨⟨⟨⟨hr,hf⟩,hkn⟩,hks⟩,hw⟩,hls⟩,hB'⟩ := hB
   have hr' : k ∈ Region.ready md ops listed := by simpa using hr
   obtain ⟨v,⟨hg,hy⟩,hK⟩ := h
   have hk := qdN (d := d) hl hkn hn
   exact qbN hk (Region.noSelect_spec hsel) hs hc hn hkn hks (fun listed' a' w' hL => seqB_ready hL.1) (fun c a w => hQ c a _ v w) S (.inr ⟨fun _ h => h,hw⟩) r.length listed a w inv (Region.free_spec hk hf) hr' (.inl ⟨qaO hg _,hy⟩) (hS hls) hS
    (qcA hl hsel hs hc hn hQ r _ _ _ (inv.set hr' hkn) hB' (fun h => hS (by rwa [qaL hks] at h)) hK)
 | (1,k) :: r,listed,a,w,inv,hB,hS,h => by
   simp only [Region.mixFB,Bool.and_eq_true,decide_eq_true_eq] at hB
   obtain ⟨⟨⟨⟨hr,hf⟩,hkn⟩,hks⟩,hB'⟩ := hB
   have hr' : k ∈ Region.ready md ops listed := by simpa using hr
   obtain ⟨v,⟨hg,hy⟩,hK⟩ := h
   have hk := qdN (d := d) hl hkn hn
   exact qbN hk (Region.noSelect_spec hsel) hs hc hn hkn hks (fun listed' a' w' hL => seqB_ready hL.1) (fun c a w => hQ c a _ v w) (fun _ => True) (.inl fun _ => trivial) r.length listed a w inv (Region.free_spec hk hf) hr' (.inl ⟨qaO hg _,fun w _ => hy w⟩) trivial hS
    (qcA hl hsel hs hc hn hQ r _ _ _ (inv.set hr' hkn) hB' (fun h => hS (by rwa [qaL hks] at h)) hK)
 | (2,k) :: r,listed,a,w,inv,hB,hS,h => by
   simp only [Region.mixFB,Bool.and_eq_true,decide_eq_true_eq] at hB
   obtain ⟨⟨hr,hkn⟩,hB'⟩ := hB
   obtain ⟨hg,hcase⟩ := h
   have hk := qdN (d := d) hl hkn hn
   refine ⟨fun h0 => (by rw [hr] at h0;cases h0),fun j hj => ?_⟩
   have hj' := hj
   rw [hr] at hj
   have hji : j = k := by simpa using hj
   subst hji
   refine ⟨hkn,?_⟩
   unfold wpOp
   simp only [hk]
   rw [if_pos (qaO hg _)]
   refine .inl ?_
   unfold Oper.wp
   rcases hcase with ⟨f,args,hrun,hcall⟩ | ⟨v,w',hrun,hS',h1⟩
   . rw [hrun]
     exact hcall.mono fun e w' ⟨u,he,hS',h1⟩ => by
      subst he
      exact ⟨fun _ => hS',qcA hl hsel hs hc hn hQ r _ _ _ (inv.set hj' hkn) hB' (fun _ => hS') h1⟩
   . rw [hrun]
     exact ⟨fun _ => hS',qcA hl hsel hs hc hn hQ r _ _ _ (inv.set hj' hkn) hB' (fun _ => hS') h1⟩
 | (t + 3,k) :: r,listed,a,w,inv,hB,hS,h => by
   simp only [Region.mixFB,Bool.and_eq_true,decide_eq_true_eq] at hB
   obtain ⟨⟨⟨⟨hr,hkn⟩,hks⟩,hfl⟩,hB'⟩ := hB
   obtain ⟨hg,w',hrun,h1⟩ := h
   have hk := qdN (d := d) hl hkn hn
   refine ⟨fun h0 => (by rw [hr] at h0;cases h0),fun j hj => ?_⟩
   have hj' := hj
   rw [hr] at hj
   have hji : j = k := by simpa using hj
   subst hji
   refine ⟨hkn,?_⟩
   unfold wpOp
   simp only [hk]
   rw [if_pos (qaO hg _)]
   refine .inl ?_
   unfold Oper.wp
   rw [hrun]
   have hno : (listed.setIfInBounds j true).getD s false = false -> S w' := fun h => by rw [hfl] at h;cases h
   exact ⟨hno,qcA hl hsel hs hc hn hQ r _ _ _ (inv.set hj' hkn) hB' hno h1⟩
theorem qaZ {id : Nat} {a : Act} {w : World} {l : List Oper} (n s : Nat) (S : World -> Prop) (ord : List (Nat × Nat)) (d : Oper) (hm : P.follows .mixedOrders = true) (hB : Region.mixFTailB .any l.toArray n s ord = true) (hQ : ∀ c (a : Act) (dst : Option Tmp) v w,Q (.panic c) (a.put dst v) w -> Q (.panic c) a w)
 (hS : S w.drew) (h : wpMixF P S (wpList P l.toArray Q (l.drop n)) (ord.map fun x => (x.1,l.getD x.2 d)) a w.drew) : (Code.region id l.toArray true).wp P Q a w := by
 simp only [Region.mixFTailB,Bool.and_eq_true,decide_eq_true_eq] at hB
 obtain ⟨⟨⟨⟨⟨hsel,hn⟩,hs⟩,hc⟩,hol⟩,hmix⟩ := hB
 have inv0 : HeadInv .any l.toArray n (Array.replicate l.toArray.size false) :=
  ⟨by simp,fun j oj _ hl => (by rw [getD_replicate_false] at hl;cases hl),fun t _ ht => getD_in (by simpa using ht) (getD_replicate_false _ _)⟩
 have H := qcA (P := P) (Q := Q) (md := .any) (g := l.toArray.size - n) rfl hsel hs hc hn hQ ord _ a w.drew inv0 hmix (fun _ => hS) h
 refine wp_region_any hm ?_
 have := qdX (g := l.toArray.size - n) (fun listed' a' w' hL => by
  have := wpAny_of_seq (P := P) (md := .any) (Q' := Q) (l.drop n) n listed' a' w' (fun j => by simp [List.getElem?_drop]) (by simpa using hL.1) hL.2
  simpa using this) _ _ a w.drew H
 rw [hol,show n + (l.toArray.size - n) = l.toArray.size by omega] at this
 exact this
end
end Go.Proofs.YtaddcadapbpkfaaGreatDoor
namespace Go.Proofs.YtaddcadapbpkfaaGreatDoor
open Go.RowKit
section
variable {P : Program} {ops : Array Oper} {md : Region.Mode} {S : World -> Prop} {Q : Exit -> Act -> World -> Prop} {n g s x lo : Nat} {ox : Oper} {ob : Obj}
def ptrTo (b : Nat) : Value := .pointer (some ⟨b,0,none⟩)
def StepTo (P : Program) (o : Oper) (a : Act) (W : World) (Φ : Value -> World -> Prop) : Prop :=
 (∃ f args,(execOp a.eval o).run P W = .ok (.enter f args) W /\ Calls P f args W fun e w' => ∃ u,e = .returned u /\ Φ u w') \/ (∃ v w',(execOp a.eval o).run P W = .ok (.value v) w' /\ Φ v w')
def wpX (P : Program) (S : World -> Prop) (ob : Obj) (dx : Option Tmp) (lo : Nat) (K : Act -> World -> Prop) (r2 : List (Nat × Oper)) : List (Nat × Oper) -> (Nat -> Prop) -> Act -> World -> Prop
 | [],F,a,w => ∀ W b,Below w.heap.size w W -> S W -> lo <= b -> ¬ F b -> W.heap[b]? = some ob -> wpMixF P S K r2 (a.put dx (ptrTo b)) W
 | (0,o) :: r,F,a,w => ∃ v,(o.guard = none /\ ∀ w,S w -> (execOp a.eval o).run P w = .ok (.value v) w) /\ wpX P S ob dx lo K r2 r F (a.put o.dst v) w
 | (1,o) :: r,F,a,w => ∃ v,(o.guard = none /\ ∀ w,(execOp a.eval o).run P w = .ok (.value v) w) /\ wpX P S ob dx lo K r2 r F (a.put o.dst v) w
 | (_,o) :: r,F,a,w => o.guard = none /\ ∀ W,Below w.heap.size w W -> S W -> StepTo P o a W fun u w' => S w' /\ Below W.heap.size W w' /\ wpX P S ob dx lo K r2 r (fun b => F b \/ (W.heap.size <= b /\ b < w'.heap.size)) (a.put o.dst u) w'
section
variable {dx : Option Tmp} {K : Act -> World -> Prop} {o : Oper} {r r2 : List (Nat × Oper)} {F : Nat -> Prop} {a : Act} {w : World}
theorem x_nil (h : ∀ W b,Below w.heap.size w W -> S W -> lo <= b -> ¬ F b -> W.heap[b]? = some ob -> wpMixF P S K r2 (a.put dx (ptrTo b)) W) : wpX P S ob dx lo K r2 [] F a w := h
theorem x_val {v : Value} (hg : o.guard = none) (hr : ∀ w,S w -> (execOp a.eval o).run P w = .ok (.value v) w) (h : wpX P S ob dx lo K r2 r F (a.put o.dst v) w) : wpX P S ob dx lo K r2 ((0,o) :: r) F a w := ⟨v,⟨hg,hr⟩,h⟩
theorem qeK {v : Value} (hg : o.guard = none) (hr : ∀ w,(execOp a.eval o).run P w = .ok (.value v) w) (h : wpX P S ob dx lo K r2 r F (a.put o.dst v) w) : wpX P S ob dx lo K r2 ((1,o) :: r) F a w := ⟨v,⟨hg,hr⟩,h⟩
theorem qeT (hg : o.guard = none) (ty : TypeId) (y : Operand) (ho : o.op = .load ty y)
 (b off : Nat) (hx : a.eval y = .pointer (some ⟨b,off,none⟩)) (cs : List Value) (d : TypeDesc) (hc : ∀ w,S w -> w.rangeAt b off cs)
 (hu : P.underlying ty = some d) (hd : d.isRow = true) (hi : (P.info? ty).map (·.size) = some cs.length)
 (h : wpX P S ob dx lo K r2 r F (a.put o.dst (.agg cs.toArray)) w) : wpX P S ob dx lo K r2 ((0,o) :: r) F a w := by
 refine x_val hg (fun W hW => ?_) h
 unfold execOp
 simp only [ho,hx,Instr.loadAt,Instr.sureAddr,Sem.run_bind,Sem.run_pure,Result.andThen_ok,run_loadVar_mid W b off ty cs d (hc W hW) hu hd hi]
theorem x_call {f : FuncId} {args : Array Value} (hg : o.guard = none) (hr : ∀ W,(execOp a.eval o).run P W = .ok (.enter f args) W)
 (h : ∀ W,Below w.heap.size w W -> S W -> Calls P f args W fun e w' => ∃ u,e = .returned u /\ S w' /\ Below W.heap.size W w' /\ wpX P S ob dx lo K r2 r (fun b => F b \/ (W.heap.size <= b /\ b < w'.heap.size)) (a.put o.dst u) w') : wpX P S ob dx lo K r2 ((2,o) :: r) F a w :=
 ⟨hg,fun W hb hS => .inl ⟨f,args,hr W,h W hb hS⟩⟩
theorem x_step (hg : o.guard = none) (h : ∀ W,Below w.heap.size w W -> S W -> ∃ v w',(execOp a.eval o).run P W = .ok (.value v) w' /\ S w' /\ Below W.heap.size W w' /\ wpX P S ob dx lo K r2 r (fun b => F b \/ (W.heap.size <= b /\ b < w'.heap.size)) (a.put o.dst v) w') : wpX P S ob dx lo K r2 ((2,o) :: r) F a w :=
 ⟨hg,fun W hb hS => .inr (h W hb hS)⟩
end
def Region.apartB (ops : Array Oper) (x k : Nat) : Bool := match ops[x]?,ops[k]? with | some ox,some ok => ox.apart ops ok | _,_ => false
def Region.mixXt (md : Region.Mode) (ops : Array Oper) (n g s x : Nat) (ord2 : List (Nat × Nat)) : List (Nat × Nat) -> Array Bool -> Bool
 | [],listed => Region.mixFB md ops n g s ord2 listed
 | (0,k) :: r,listed => (Region.ready md ops listed).contains k && Region.free md ops listed k && decide (k < n) && decide (k ≠ s) && Region.waitsFor md ops s k && Region.apartB ops x k && Region.mixXt md ops n g s x ord2 r (listed.setIfInBounds k true)
 | (1,k) :: r,listed => (Region.ready md ops listed).contains k && Region.free md ops listed k && decide (k < n) && decide (k ≠ s) && Region.apartB ops x k && Region.mixXt md ops n g s x ord2 r (listed.setIfInBounds k true)
 | (_,k) :: r,listed => decide (Region.ready md ops listed = [k]) && decide (k < n) && decide (k ≠ s) && Region.apartB ops x k && Region.mixXt md ops n g s x ord2 r (listed.setIfInBounds k true)
def Region.mixXf (md : Region.Mode) (ops : Array Oper) (n g s x : Nat) (ord2 : List (Nat × Nat)) : List (Nat × Nat) -> Array Bool -> Bool
 | [],listed => decide (Region.ready md ops listed = [x]) && Region.mixXt md ops n g s x ord2 [] (listed.setIfInBounds x true)
 | (0,k) :: r,listed => (Region.ready md ops listed).contains k && Region.free md ops listed k && decide (k < n) && decide (k ≠ s) && Region.waitsFor md ops s k && Region.mixXf md ops n g s x ord2 r (listed.setIfInBounds k true)
 | (1,k) :: r,listed => (Region.ready md ops listed).contains k && Region.free md ops listed k && decide (k < n) && decide (k ≠ s) && Region.mixXf md ops n g s x ord2 r (listed.setIfInBounds k true)
 | (t,k) :: r,listed => decide (Region.ready md ops listed = [k,x]) && decide (k < n) && decide (k ≠ s) && Region.mixXf md ops n g s x ord2 r (listed.setIfInBounds k true) && Region.mixXt md ops n g s x ord2 ((t,k) :: r) (listed.setIfInBounds x true)
theorem qfE {k : Nat} {ok : Oper} (hx : ops[x]? = some ox) (hk : ops[k]? = some ok) (h : Region.apartB ops x k = true) : ox.apart ops ok = true := by
 unfold Region.apartB at h
 simp only [hx,hk] at h
 exact h
theorem qeS {l : List Oper} {d : Oper} {Lq : Act -> World -> Prop} (hl : ops = l.toArray) (hsel : Region.noSelect ops = true) (hs : Region.sinkB md ops n = true) (hc : Region.chainB md ops n = true) (hn : n < ops.size) (hQ : ∀ c (a : Act) (dst : Option Tmp) v w,Q (.panic c) (a.put dst v) w -> Q (.panic c) a w)
 (hx : ops[x]? = some ox) (ord2 : List (Nat × Nat)) :
 ∀ (ord : List (Nat × Nat)) (listed : Array Bool) (F : Nat -> Prop) (a : Act) (w W : World) (b : Nat),HeadInv md ops n listed -> Region.mixXt md ops n g s x ord2 ord listed = true -> listed.getD s false = false -> wpX P S ob ox.dst lo Lq (ord2.map fun y => (y.1,l.getD y.2 d)) (ord.map fun y => (y.1,l.getD y.2 d)) F a w ->
  Below w.heap.size w W -> S W -> lo <= b -> ¬ F b -> W.heap[b]? = some ob ->
  wpAnyHF P md ops Q S n s (fun listed' a' w' => Region.seqB md ops g n listed' = true /\ Lq a' w') (ord.length + ord2.length) listed (a.put ox.dst (ptrTo b)) W
 | [],listed,F,a,w,W,b,inv,hB,hls,h,hW,hS,hlo,hF,hb => by
   rw [List.length_nil,Nat.zero_add]
   exact qcA hl hsel hs hc hn hQ ord2 listed _ W inv hB (fun _ => hS) (h W b hW hS hlo hF hb)
 | (0,k) :: r,listed,F,a,w,W,b,inv,hB,hls,h,hW,hS,hlo,hF,hb => by
   simp only [Region.mixXt,Bool.and_eq_true,decide_eq_true_eq] at hB
   obtain ⟨⟨⟨⟨⟨⟨hr,hf⟩,hkn⟩,hks⟩,hw⟩,hap⟩,hB'⟩ := hB
   have hr' : k ∈ Region.ready md ops listed := by simpa using hr
   obtain ⟨v,⟨hg,hy⟩,hK⟩ := h
   have hk := qdN (d := d) hl hkn hn
   obtain ⟨h1,h2,h3⟩ := Oper.apart_spec (qfE hx hk hap)
   have hy' : ∀ w,S w -> (execOp (a.put ox.dst (ptrTo b)).eval (l.getD k d)).run P w = .ok (.value v) w := fun w hw => by
    rw [execOp_put (l.getD k d) (fun cs b => Region.noSelect_spec hsel k _ cs b hk) a ox.dst (ptrTo b) h1]
    exact hy w hw
   rw [List.length_cons,show r.length + 1 + ord2.length = (r.length + ord2.length) + 1 by omega]
   refine qbN hk (Region.noSelect_spec hsel) hs hc hn hkn hks (fun listed' a' w' hL => seqB_ready hL.1) (fun c a w => hQ c a _ v w) S (.inr ⟨fun _ h => h,hw⟩) _ listed _ W inv (Region.free_spec hk hf) hr' (.inl ⟨qaO hg _,hy'⟩) hS (fun _ => hS) ?_
   rw [Act.put_comm a (ptrTo b) v h2]
   exact qeS hl hsel hs hc hn hQ hx ord2 r _ F _ w W b (inv.set hr' hkn) hB' (by rwa [qaL hks]) hK hW hS hlo hF hb
 | (1,k) :: r,listed,F,a,w,W,b,inv,hB,hls,h,hW,hS,hlo,hF,hb => by
   simp only [Region.mixXt,Bool.and_eq_true,decide_eq_true_eq] at hB
   obtain ⟨⟨⟨⟨⟨hr,hf⟩,hkn⟩,hks⟩,hap⟩,hB'⟩ := hB
   have hr' : k ∈ Region.ready md ops listed := by simpa using hr
   obtain ⟨v,⟨hg,hy⟩,hK⟩ := h
   have hk := qdN (d := d) hl hkn hn
   obtain ⟨h1,h2,h3⟩ := Oper.apart_spec (qfE hx hk hap)
   have hy' : ∀ w,True -> (execOp (a.put ox.dst (ptrTo b)).eval (l.getD k d)).run P w = .ok (.value v) w := fun w _ => by
    rw [execOp_put (l.getD k d) (fun cs b => Region.noSelect_spec hsel k _ cs b hk) a ox.dst (ptrTo b) h1]
    exact hy w
   rw [List.length_cons,show r.length + 1 + ord2.length = (r.length + ord2.length) + 1 by omega]
   refine qbN hk (Region.noSelect_spec hsel) hs hc hn hkn hks (fun listed' a' w' hL => seqB_ready hL.1) (fun c a w => hQ c a _ v w) (fun _ => True) (.inl fun _ => trivial) _ listed _ W inv (Region.free_spec hk hf) hr' (.inl ⟨qaO hg _,hy'⟩) trivial (fun _ => hS) ?_
   rw [Act.put_comm a (ptrTo b) v h2]
   exact qeS hl hsel hs hc hn hQ hx ord2 r _ F _ w W b (inv.set hr' hkn) hB' (by rwa [qaL hks]) hK hW hS hlo hF hb
 | (t + 2,k) :: r,listed,F,a,w,W,b,inv,hB,hls,h,hW,hS,hlo,hF,hb => by
   simp only [Region.mixXt,Bool.and_eq_true,decide_eq_true_eq] at hB
   obtain ⟨⟨⟨⟨hr,hkn⟩,hks⟩,hap⟩,hB'⟩ := hB
   obtain ⟨hg,hstep⟩ := h
   have hk := qdN (d := d) hl hkn hn
   obtain ⟨h1,h2,h3⟩ := Oper.apart_spec (qfE hx hk hap)
   rw [List.length_cons,show r.length + 1 + ord2.length = (r.length + ord2.length) + 1 by omega]
   refine ⟨fun h0 => (by rw [hr] at h0;cases h0),fun j hj => ?_⟩
   have hj' := hj
   rw [hr] at hj
   have hji : j = k := by simpa using hj
   subst hji
   refine ⟨hkn,?_⟩
   unfold wpOp
   simp only [hk]
   rw [if_pos (qaO hg _)]
   refine .inl ?_
   unfold Oper.wp
   rw [execOp_put (l.getD j d) (fun cs b => Region.noSelect_spec hsel j _ cs b hk) a ox.dst (ptrTo b) h1]
   rcases hstep W hW hS with ⟨f,args,hrun,hcall⟩ | ⟨u,w',hrun,hS',hbW,hr⟩
   . rw [hrun]
     exact hcall.mono fun e w' ⟨u,he,hS',hbW,hr⟩ => by
      subst he
      have hbl : b < W.heap.size := (Array.getElem?_eq_some_iff.1 hb).1
      refine ⟨fun _ => hS',?_⟩
      show wpAnyHF P md ops Q S n s _ _ _ ((a.put ox.dst (ptrTo b)).put (l.getD j d).dst u) w'
      rw [Act.put_comm a (ptrTo b) u h2]
      exact qeS hl hsel hs hc hn hQ hx ord2 r _ _ _ w' w' b (inv.set hj' hkn) hB' (by rwa [qaL hks]) hr (Below.refl _ _) hS' hlo (fun h => h.elim hF (fun h => by omega)) ((hbW.block b hbl).trans hb)
   . rw [hrun]
     have hbl : b < W.heap.size := (Array.getElem?_eq_some_iff.1 hb).1
     refine ⟨fun _ => hS',?_⟩
     show wpAnyHF P md ops Q S n s _ _ _ ((a.put ox.dst (ptrTo b)).put (l.getD j d).dst u) w'
     rw [Act.put_comm a (ptrTo b) u h2]
     exact qeS hl hsel hs hc hn hQ hx ord2 r _ _ _ w' w' b (inv.set hj' hkn) hB' (by rwa [qaL hks]) hr (Below.refl _ _) hS' hlo (fun h => h.elim hF (fun h => by omega)) ((hbW.block b hbl).trans hb)
theorem qeJ {l : List Oper} {d : Oper} {Lq : Act -> World -> Prop} (hl : ops = l.toArray) (hsel : Region.noSelect ops = true) (hs : Region.sinkB md ops n = true) (hc : Region.chainB md ops n = true) (hn : n < ops.size) (hQ : ∀ c (a : Act) (dst : Option Tmp) v w,Q (.panic c) (a.put dst v) w -> Q (.panic c) a w)
 (hx : ops[x]? = some ox) (hxn : x < n) (hxs : x ≠ s) (hxg : ox.guard = none) (hxr : ∀ (a : Act) (w : World),(execOp a.eval ox).run P w = .ok (.value (ptrTo w.heap.size)) (w.alloc ob)) (hSx : ∀ w,S w -> S (w.alloc ob)) (ord2 : List (Nat × Nat)) :
 ∀ (ord : List (Nat × Nat)) (listed : Array Bool) (F : Nat -> Prop) (a : Act) (w : World),HeadInv md ops n listed -> Region.mixXf md ops n g s x ord2 ord listed = true -> listed.getD s false = false -> wpX P S ob ox.dst lo Lq (ord2.map fun y => (y.1,l.getD y.2 d)) (ord.map fun y => (y.1,l.getD y.2 d)) F a w -> S w -> lo <= w.heap.size -> (∀ b,F b -> b < w.heap.size) ->
  wpAnyHF P md ops Q S n s (fun listed' a' w' => Region.seqB md ops g n listed' = true /\ Lq a' w') (ord.length + ord2.length + 1) listed a w
 | [],listed,F,a,w,inv,hB,hls,h,hS,hlo,hF => by
   simp only [Region.mixXf,Bool.and_eq_true,decide_eq_true_eq] at hB
   obtain ⟨hr,hB'⟩ := hB
   refine ⟨fun h0 => (by rw [hr] at h0;cases h0),fun j hj => ?_⟩
   have hj' := hj
   rw [hr] at hj
   have hji : j = x := by simpa using hj
   subst hji
   refine ⟨hxn,?_⟩
   unfold wpOp
   simp only [hx]
   rw [if_pos (qaO hxg _)]
   refine .inl ?_
   unfold Oper.wp
   rw [hxr]
   exact ⟨fun _ => hSx w hS,qeS (ob := ob) hl hsel hs hc hn hQ hx ord2 [] _ F a w (w.alloc ob) w.heap.size (inv.set hj' hxn) hB' (by rwa [qaL hxs]) h ((Below.refl _ _).alloc (Nat.le_refl _) _) (hSx w hS) hlo (fun h => by have := hF _ h;omega) (heap_alloc_new _ _)⟩
 | (0,k) :: r,listed,F,a,w,inv,hB,hls,h,hS,hlo,hF => by
   simp only [Region.mixXf,Bool.and_eq_true,decide_eq_true_eq] at hB
   obtain ⟨⟨⟨⟨⟨hr,hf⟩,hkn⟩,hks⟩,hw⟩,hB'⟩ := hB
   have hr' : k ∈ Region.ready md ops listed := by simpa using hr
   obtain ⟨v,⟨hg,hy⟩,hK⟩ := h
   have hk := qdN (d := d) hl hkn hn
   rw [List.length_cons,show r.length + 1 + ord2.length + 1 = (r.length + ord2.length + 1) + 1 by omega]
   refine qbN hk (Region.noSelect_spec hsel) hs hc hn hkn hks (fun listed' a' w' hL => seqB_ready hL.1) (fun c a w => hQ c a _ v w) S (.inr ⟨fun _ h => h,hw⟩) _ listed _ w inv (Region.free_spec hk hf) hr' (.inl ⟨qaO hg _,hy⟩) hS (fun _ => hS) ?_
   exact qeJ hl hsel hs hc hn hQ hx hxn hxs hxg hxr hSx ord2 r _ F _ w (inv.set hr' hkn) hB' (by rwa [qaL hks]) hK hS hlo hF
 | (1,k) :: r,listed,F,a,w,inv,hB,hls,h,hS,hlo,hF => by
   simp only [Region.mixXf,Bool.and_eq_true,decide_eq_true_eq] at hB
   obtain ⟨⟨⟨⟨hr,hf⟩,hkn⟩,hks⟩,hB'⟩ := hB
   have hr' : k ∈ Region.ready md ops listed := by simpa using hr
   obtain ⟨v,⟨hg,hy⟩,hK⟩ := h
   have hk := qdN (d := d) hl hkn hn
   rw [List.length_cons,show r.length + 1 + ord2.length + 1 = (r.length + ord2.length + 1) + 1 by omega]
   refine qbN hk (Region.noSelect_spec hsel) hs hc hn hkn hks (fun listed' a' w' hL => seqB_ready hL.1) (fun c a w => hQ c a _ v w) (fun _ => True) (.inl fun _ => trivial) _ listed _ w inv (Region.free_spec hk hf) hr' (.inl ⟨qaO hg _,fun w _ => hy w⟩) trivial (fun _ => hS) ?_
   exact qeJ hl hsel hs hc hn hQ hx hxn hxs hxg hxr hSx ord2 r _ F _ w (inv.set hr' hkn) hB' (by rwa [qaL hks]) hK hS hlo hF
 | (t + 2,k) :: r,listed,F,a,w,inv,hB,hls,h,hS,hlo,hF => by
   simp only [Region.mixXf,Bool.and_eq_true,decide_eq_true_eq] at hB
   obtain ⟨⟨⟨⟨hr,hkn⟩,hks⟩,hB'⟩,hBx⟩ := hB
   have hk := qdN (d := d) hl hkn hn
   rw [List.length_cons,show r.length + 1 + ord2.length + 1 = (r.length + ord2.length + 1) + 1 by omega]
   refine ⟨fun h0 => (by rw [hr] at h0;cases h0),fun j hj => ?_⟩
   have hj' := hj
   rw [hr] at hj
   rcases List.mem_cons.1 hj with hji | hji
   . subst hji
     refine ⟨hkn,?_⟩
     obtain ⟨hg,hstep⟩ := h
     unfold wpOp
     simp only [hk]
     rw [if_pos (qaO hg _)]
     refine .inl ?_
     unfold Oper.wp
     rcases hstep w (Below.refl _ _) hS with ⟨f,args,hrun,hcall⟩ | ⟨u,w',hrun,hS',hbW,hr⟩
     . rw [hrun]
       exact hcall.mono fun e w' ⟨u,he,hS',hbW,hr⟩ => by
        subst he
        exact ⟨fun _ => hS',qeJ hl hsel hs hc hn hQ hx hxn hxs hxg hxr hSx ord2 r _ _ _ w' (inv.set hj' hkn) hB' (by rwa [qaL hks]) hr hS' (Nat.le_trans hlo hbW.size) (fun b hb => hb.elim (fun h => Nat.lt_of_lt_of_le (hF b h) hbW.size) (fun h => h.2))⟩
     . rw [hrun]
       exact ⟨fun _ => hS',qeJ hl hsel hs hc hn hQ hx hxn hxs hxg hxr hSx ord2 r _ _ _ w' (inv.set hj' hkn) hB' (by rwa [qaL hks]) hr hS' (Nat.le_trans hlo hbW.size) (fun b hb => hb.elim (fun h => Nat.lt_of_lt_of_le (hF b h) hbW.size) (fun h => h.2))⟩
   . have hjx : j = x := by simpa using hji
     subst hjx
     refine ⟨hxn,?_⟩
     unfold wpOp
     simp only [hx]
     rw [if_pos (qaO hxg _)]
     refine .inl ?_
     unfold Oper.wp
     rw [hxr]
     refine ⟨fun _ => hSx w hS,?_⟩
     have := qeS (ob := ob) (Q := Q) (g := g) hl hsel hs hc hn hQ hx ord2 ((t + 2,k) :: r) _ F a w (w.alloc ob) w.heap.size (inv.set hj' hxn) hBx (by rwa [qaL hxs]) h ((Below.refl _ _).alloc (Nat.le_refl _) _) (hSx w hS) hlo (fun h => by have := hF _ h;omega) (heap_alloc_new _ _)
     rw [List.length_cons,show r.length + 1 + ord2.length = r.length + ord2.length + 1 by omega] at this
     exact this
def Region.mixXTailB (md : Region.Mode) (ops : Array Oper) (n s x : Nat) (ord ord2 : List (Nat × Nat)) : Bool :=
 Region.noSelect ops && decide (n < ops.size) && Region.sinkB md ops n && Region.chainB md ops n && decide (ord.length + ord2.length + 1 = n) && decide (x < n) && decide (x ≠ s) && Region.mixXf md ops n (ops.size - n) s x ord2 ord (Array.replicate ops.size false)
theorem qbU {id : Nat} {a : Act} {w : World} {l : List Oper} (n s x : Nat) (S : World -> Prop) (ord ord2 : List (Nat × Nat)) (d : Oper) (ox : Oper) (ob : Obj) (hm : P.follows .mixedOrders = true) (hB : Region.mixXTailB .any l.toArray n s x ord ord2 = true) (hQ : ∀ c (a : Act) (dst : Option Tmp) v w,Q (.panic c) (a.put dst v) w -> Q (.panic c) a w)
 (hx : l.toArray[x]? = some ox) (hxg : ox.guard = none) (hxr : ∀ (a : Act) (w : World),(execOp a.eval ox).run P w = .ok (.value (ptrTo w.heap.size)) (w.alloc ob)) (hSx : ∀ w,S w -> S (w.alloc ob))
 (hS : S w.drew) (h : wpX P S ob ox.dst w.heap.size (wpList P l.toArray Q (l.drop n)) (ord2.map fun y => (y.1,l.getD y.2 d)) (ord.map fun y => (y.1,l.getD y.2 d)) (fun _ => False) a w.drew) : (Code.region id l.toArray true).wp P Q a w := by
 simp only [Region.mixXTailB,Bool.and_eq_true,decide_eq_true_eq] at hB
 obtain ⟨⟨⟨⟨⟨⟨⟨hsel,hn⟩,hs⟩,hc⟩,hol⟩,hxn⟩,hxs⟩,hmix⟩ := hB
 have inv0 : HeadInv .any l.toArray n (Array.replicate l.toArray.size false) :=
  ⟨by simp,fun j oj _ hl => (by rw [getD_replicate_false] at hl;cases hl),fun t _ ht => getD_in (by simpa using ht) (getD_replicate_false _ _)⟩
 have H := qeJ (P := P) (Q := Q) (md := .any) (g := l.toArray.size - n) rfl hsel hs hc hn hQ hx hxn hxs hxg hxr hSx ord2 ord _ (fun _ => False) a w.drew inv0 hmix (getD_replicate_false _ _) h hS (Nat.le_refl _) (fun _ h => h.elim)
 refine wp_region_any hm ?_
 have := qdX (g := l.toArray.size - n) (fun listed' a' w' hL => by
  have := wpAny_of_seq (P := P) (md := .any) (Q' := Q) (l.drop n) n listed' a' w' (fun j => by simp [List.getElem?_drop]) (by simpa using hL.1) hL.2
  simpa using this) _ _ a w.drew H
 rw [hol,show n + (l.toArray.size - n) = l.toArray.size by omega] at this
 exact this
end
end Go.Proofs.YtaddcadapbpkfaaGreatDoor
