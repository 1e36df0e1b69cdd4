/-
  A region as in Mf that is taken whole: no tail.
-/
import Derived.Test.YtaddcadapbpkfaaGreatDoorQ24
namespace Go.Proofs.YtaddcadapbpkfaaGreatDoor
section
variable {P : Program} {ops : Array Oper} {md : Region.Mode} {S : World -> Prop} {Q : Exit -> Act -> World -> Prop} {n g s : Nat}
theorem oper_at' {l : List Oper} {d : Oper} {k : Nat} (hl : ops = l.toArray) (hkn : k < n) (hn : n <= ops.size) : ops[k]? = some (l.getD k d) := by
  have hlt : k < l.length := by rw [hl] at hn;simp at hn;omega
  rw [hl]
  simp [List.getD,hlt]
theorem wpAnyHA_first {i : Nat} {oi : Oper} {v : Value} {L : Array Bool -> Act -> World -> Prop} (hi : ops[i]? = some oi) (hsel : ∀ (j : Nat) (o : Oper) cs b,ops[j]? = some o -> o.op ≠ .select cs b)
    (htw : ∀ listed : Array Bool,HeadInv md ops n listed -> ∀ i,i < n -> listed.getD i true = false -> ∀ t,n <= t -> t ∉ Region.ready md ops listed) (hin : i < n) (his : i ≠ s)
    (hdone : ∀ listed a w,L listed a w -> ∀ j ∈ Region.ready md ops listed,n <= j)
    (hQ : ∀ c a w,Q (.panic c) (a.put oi.dst v) w -> Q (.panic c) a w) (T : World -> Prop)
    (hT : (∀ w,T w) \/ ((∀ w,S w -> T w) /\ Region.waitsFor md ops s i = true)) :
    ∀ (f : Nat) (listed : Array Bool) (a : Act) (w : World),HeadInv md ops n listed ->
      (∀ j oj,ops[j]? = some oj -> j ≠ i -> listed.getD j true = false -> (∀ e ∈ oj.after,Region.binds md e = true -> e.on ≠ i) -> oi.apart ops oj = true) ->
      i ∈ Region.ready md ops listed -> YieldsIf P ops T oi v a -> T w -> (listed.getD s false = false -> S w) ->
      wpAnyHF P md ops Q S n s L f (listed.setIfInBounds i true) (a.put oi.dst v) w -> wpAnyHF P md ops Q S n s L (f + 1) listed a w := by
  intro f
  induction f with
  | zero =>
    intro listed a w inv _ hr hy hTw hS H
    have hun := (mem_ready.1 hr).1
    refine ⟨fun h => (by rw [h] at hr;cases hr),fun j hj => ?_⟩
    have hjn : j < n := by
      rcases Nat.lt_or_ge j n with h | h
      . exact h
      . exact absurd hj (htw listed inv i hin hun j h)
    refine ⟨hjn,?_⟩
    by_cases hji : j = i
    . subst hji
      exact hy.wpOp hi hTw ⟨fun h => hS (by rwa [getD_setB_ne his] at h),H⟩
    . have := hdone _ _ _ H j (ready_mono hj hji)
      omega
  | succ f ih =>
    intro listed a w inv hfree hr hy hTw hS H
    have hun := (mem_ready.1 hr).1
    refine ⟨fun h => (by rw [h] at hr;cases hr),fun j hj => ?_⟩
    have hjn : j < n := by
      rcases Nat.lt_or_ge j n with h | h
      . exact h
      . exact absurd hj (htw listed inv i hin hun j h)
    refine ⟨hjn,?_⟩
    by_cases hji : j = i
    . subst hji
      exact hy.wpOp hi hTw ⟨fun h => hS (by rwa [getD_setB_ne his] at h),H⟩
    . have h1 := (H.2 j (ready_mono hj hji)).2
      obtain ⟨hjun,oj,hoj,hall⟩ := mem_ready.1 hj
      have hnot : ∀ e ∈ oj.after,Region.binds md e = true -> e.on ≠ i := fun e he hb heq => by
        have h1 := hall e he hb
        rw [heq,getD_both hun] at h1
        cases h1
      have h2 := wpOp_putIf hoj (hfree j oj hoj hji hjun hnot) (fun cs b => hsel i oi cs b hi) (fun cs b => hsel j oj cs b hoj) hQ hy h1
      have hfree' : ∀ k ok,ops[k]? = some ok -> k ≠ i -> (listed.setIfInBounds j true).getD k true = false ->
          (∀ e ∈ ok.after,Region.binds md e = true -> e.on ≠ i) -> oi.apart ops ok = true := fun k ok hk hki hun hno => by
        refine hfree k ok hk hki ?_ hno
        by_cases hjk : j = k
        . subst hjk;exact hjun
        . rw [getD_set_ne true hjk] at hun;exact hun
      have hflag : ((listed.setIfInBounds i true).setIfInBounds j true).getD s false = (listed.setIfInBounds j true).getD s false := by
        rw [Array.setIfInBounds_comm _ _ (Ne.symm hji),getD_setB_ne his]
      refine wpOp_mono (fun a' w' h3 => ?_) h2
      have hS' : (listed.setIfInBounds j true).getD s false = false -> S w' := fun h => h3.2.1 (by rw [hflag];exact h)
      have hT' : T w' := by
        rcases hT with hT | ⟨hT,hw⟩
        . exact hT w'
        . refine hT w' (hS' ?_)
          have hjs : j ≠ s := fun e => by
            subst e
            obtain ⟨os,hos,e,he,hb,hon⟩ := Region.waitsFor_spec hw
            have : os = oj := Option.some.inj (hos.symm.trans hoj)
            subst this
            exact hnot e he hb hon
          rw [getD_setB_ne hjs]
          cases hls : listed.getD s false with
          | false => rfl
          | true =>
            obtain ⟨os,hos,e,he,hb,hon⟩ := Region.waitsFor_spec hw
            have := inv.closed s os hos hls e he hb
            rw [hon,getD_both hun] at this
            cases this
      refine ⟨hS',ih (listed.setIfInBounds j true) a' w' (inv.set hj hjn) hfree' (ready_mono hr (Ne.symm hji)) h3.1 hT' hS' ?_⟩
      rw [Array.setIfInBounds_comm _ _ hji]
      exact h3.2.2
theorem wpAnyHA_mix {l : List Oper} {d : Oper} {Lq : Act -> World -> Prop} (hl : ops = l.toArray) (hsel : Region.noSelect ops = true) (htw : ∀ listed : Array Bool,HeadInv md ops n listed -> ∀ i,i < n -> listed.getD i true = false -> ∀ t,n <= t -> t ∉ Region.ready md ops listed) (hn : n <= ops.size) (hQ : ∀ c (a : Act) (dst : Option Tmp) v w,Q (.panic c) (a.put dst v) w -> Q (.panic c) a w) :
    ∀ (ord : List (Nat × Nat)) (listed : Array Bool) (a : Act) (w : World),HeadInv md ops n listed -> Region.mixFB md ops n g s ord listed = true -> (listed.getD s false = false -> S w) -> wpMixF P S Lq (ord.map fun x => (x.1,l.getD x.2 d)) a w ->
      wpAnyHF P md ops Q S n s (fun listed' a' w' => Region.seqB md ops g n listed' = true /\ Lq a' w') ord.length listed a w
  | [],listed,a,w,_,hB,_,h => ⟨hB,h⟩
  | (0,k) :: r,listed,a,w,inv,hB,hS,h => by
    simp only [Region.mixFB,Bool.and_eq_true,decide_eq_true_eq,Bool.not_eq_true'] at hB
    obtain ⟨⟨⟨⟨⟨⟨hr,hf⟩,hkn⟩,hks⟩,hw⟩,hls⟩,hB'⟩ := hB
    have hr' : k ∈ Region.ready md ops listed := by simpa using hr
    obtain ⟨v,⟨hg,hy⟩,hK⟩ := h
    have hk := oper_at' (d := d) hl hkn hn
    exact wpAnyHA_first hk (Region.noSelect_spec hsel) htw hkn hks (fun listed' a' w' hL => seqB_ready hL.1) (fun c a w => hQ c a _ v w) S (.inr ⟨fun _ h => h,hw⟩) r.length listed a w inv (Region.free_spec hk hf) hr' (.inl ⟨wanted_none hg _,hy⟩) (hS hls) hS
      (wpAnyHA_mix hl hsel htw hn hQ r _ _ _ (inv.set hr' hkn) hB' (fun h => hS (by rwa [getD_setB_ne hks] at h)) hK)
  | (1,k) :: r,listed,a,w,inv,hB,hS,h => by
    simp only [Region.mixFB,Bool.and_eq_true,decide_eq_true_eq] at hB
    obtain ⟨⟨⟨⟨hr,hf⟩,hkn⟩,hks⟩,hB'⟩ := hB
    have hr' : k ∈ Region.ready md ops listed := by simpa using hr
    obtain ⟨v,⟨hg,hy⟩,hK⟩ := h
    have hk := oper_at' (d := d) hl hkn hn
    exact wpAnyHA_first hk (Region.noSelect_spec hsel) htw hkn hks (fun listed' a' w' hL => seqB_ready hL.1) (fun c a w => hQ c a _ v w) (fun _ => True) (.inl fun _ => trivial) r.length listed a w inv (Region.free_spec hk hf) hr' (.inl ⟨wanted_none hg _,fun w _ => hy w⟩) trivial hS
      (wpAnyHA_mix hl hsel htw hn hQ r _ _ _ (inv.set hr' hkn) hB' (fun h => hS (by rwa [getD_setB_ne hks] at h)) hK)
  | (2,k) :: r,listed,a,w,inv,hB,hS,h => by
    simp only [Region.mixFB,Bool.and_eq_true,decide_eq_true_eq] at hB
    obtain ⟨⟨hr,hkn⟩,hB'⟩ := hB
    obtain ⟨hg,hcase⟩ := h
    have hk := oper_at' (d := d) hl hkn hn
    refine ⟨fun h0 => (by rw [hr] at h0;cases h0),fun j hj => ?_⟩
    have hj' := hj
    rw [hr] at hj
    have hji : j = k := by simpa using hj
    subst hji
    refine ⟨hkn,?_⟩
    unfold wpOp
    simp only [hk]
    rw [if_pos (wanted_none hg _)]
    refine .inl ?_
    unfold Oper.wp
    rcases hcase with ⟨f,args,hrun,hcall⟩ | ⟨v,w',hrun,hS',h1⟩
    . rw [hrun]
      exact hcall.mono fun e w' ⟨u,he,hS',h1⟩ => by
        subst he
        exact ⟨fun _ => hS',wpAnyHA_mix hl hsel htw hn hQ r _ _ _ (inv.set hj' hkn) hB' (fun _ => hS') h1⟩
    . rw [hrun]
      exact ⟨fun _ => hS',wpAnyHA_mix hl hsel htw hn hQ r _ _ _ (inv.set hj' hkn) hB' (fun _ => hS') h1⟩
  | (t + 3,k) :: r,listed,a,w,inv,hB,hS,h => by
    simp only [Region.mixFB,Bool.and_eq_true,decide_eq_true_eq] at hB
    obtain ⟨⟨⟨⟨hr,hkn⟩,hks⟩,hfl⟩,hB'⟩ := hB
    obtain ⟨hg,w',hrun,h1⟩ := h
    have hk := oper_at' (d := d) hl hkn hn
    refine ⟨fun h0 => (by rw [hr] at h0;cases h0),fun j hj => ?_⟩
    have hj' := hj
    rw [hr] at hj
    have hji : j = k := by simpa using hj
    subst hji
    refine ⟨hkn,?_⟩
    unfold wpOp
    simp only [hk]
    rw [if_pos (wanted_none hg _)]
    refine .inl ?_
    unfold Oper.wp
    rw [hrun]
    have hno : (listed.setIfInBounds j true).getD s false = false -> S w' := fun h => by rw [hfl] at h;cases h
    exact ⟨hno,wpAnyHA_mix hl hsel htw hn hQ r _ _ _ (inv.set hj' hkn) hB' hno h1⟩
def Region.mixAllB (md : Region.Mode) (ops : Array Oper) (s : Nat) (ord : List (Nat × Nat)) : Bool :=
  Region.noSelect ops && decide (ord.length = ops.size) && Region.mixFB md ops ops.size 0 s ord (Array.replicate ops.size false)
theorem wp_region_mixa {id : Nat} {a : Act} {w : World} {l : List Oper} (s : Nat) (S : World -> Prop) (ord : List (Nat × Nat)) (d : Oper) (hm : P.follows .mixedOrders = true) (hB : Region.mixAllB .any l.toArray s ord = true) (hQ : ∀ c (a : Act) (dst : Option Tmp) v w,Q (.panic c) (a.put dst v) w -> Q (.panic c) a w)
    (hS : S w.drew) (h : wpMixF P S (wpList P l.toArray Q []) (ord.map fun x => (x.1,l.getD x.2 d)) a w.drew) : (Code.region id l.toArray true).wp P Q a w := by
  simp only [Region.mixAllB,Bool.and_eq_true,decide_eq_true_eq] at hB
  obtain ⟨⟨hsel,hol⟩,hmix⟩ := hB
  have inv0 : HeadInv .any l.toArray l.toArray.size (Array.replicate l.toArray.size false) :=
    ⟨by simp,fun j oj _ hl => (by rw [getD_replicate_false] at hl;cases hl),fun t _ ht => getD_in (by simpa using ht) (getD_replicate_false _ _)⟩
  have htw : ∀ listed : Array Bool,HeadInv .any l.toArray l.toArray.size listed -> ∀ i,i < l.toArray.size -> listed.getD i true = false -> ∀ t,l.toArray.size <= t -> t ∉ Region.ready .any l.toArray listed := fun listed _ i _ _ t ht hr => by
    obtain ⟨_,ot,hot,_⟩ := mem_ready.1 hr
    have := (Array.getElem?_eq_some_iff.1 hot).1
    omega
  have H := wpAnyHA_mix (P := P) (Q := Q) (md := .any) (g := 0) rfl hsel htw (Nat.le_refl _) hQ ord _ a w.drew inv0 hmix (fun _ => hS) h
  refine wp_region_any hm ?_
  have := wpAny_of_HF (g := 0) (fun listed' a' w' hL => by
    have := wpAny_of_seq (P := P) (md := .any) (Q' := Q) [] l.toArray.size listed' a' w' (fun j => by simp) (by simpa using hL.1) hL.2
    simpa using this) _ _ a w.drew H
  rw [hol] at this
  exact this
end
end Go.Proofs.YtaddcadapbpkfaaGreatDoor

