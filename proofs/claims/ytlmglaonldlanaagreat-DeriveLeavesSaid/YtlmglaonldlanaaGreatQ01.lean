/-
 A region that draws its order, of values and of calls, in an order of the prover's; the last operations in their one order. A region as in Mx, with one store (number s) among the operations ahead of the tail: the condition S is asked only while that store has not come up. A region that draws its order inside a fence without bounds (a round's frame, or a call that calls yield): its head in the mixed order, its last operations in their one order. Small laws of the walk that the library lacks: a whole struct stored into the block that was made last; byte strings; worlds.
-/
import Derived.StillTail
import Derived.OrdersHeld
import Derived.Deep.MidRow
import Derived.OrdersIn
import Derived.TacticsIn
import Derived.RangeFuncIn
import Derived.RangeFuncRecord
import Derived.RangeFuncSeq
import Derived.WalkKit
import Derived.Deep.WholeRow
import Derived.Deep.Draws
import Derived.Below
namespace Go.Proofs.YtlmglaonldlanaaGreat
section
variable {P:Program} {ops:Array Oper} {md:Region.Mode} {S:World->Prop} {Q:Exit->Act->World->Prop} {n g:Nat}
def wpAnyHL (P:Program) (md:Region.Mode) (ops:Array Oper) (Q:Exit->Act->World->Prop) (S:World->Prop) (n:Nat) (L:Array Bool->Act->World->Prop):Nat->Array Bool->Act->World->Prop
 | 0,listed,a,w=>L listed a w
 | f + 1,listed,a,w =>
   Region.ready md ops listed≠[]/\∀ i∈Region.ready md ops listed,i<n/\wpOp P ops Q i (fun a' w'=>S w'/\wpAnyHL P md ops Q S n L f (listed.setIfInBounds i true) a' w') a w
theorem wpAny_of_HL {L:Array Bool->Act->World->Prop} (hL:∀ listed a w,L listed a w->wpAny P md ops Q g listed a w) :
 ∀ (f:Nat) (listed:Array Bool) (a:Act) (w:World),wpAnyHL P md ops Q S n L f listed a w->wpAny P md ops Q (f+g) listed a w
 | 0,listed,a,w,h=>by rw [Nat.zero_add];exact hL _ _ _ h
 | f + 1,listed,a,w,h => by
   rw [show f+1+g=(f+g)+1 by omega]
   exact ⟨fun h0=>absurd h0 h.1,fun i hi=>wpOp_mono (fun a' w' h'=>wpAny_of_HL hL f _ a' w' h'.2) (h.2 i hi).2⟩
theorem wpAnyHL_first {i:Nat} {oi:Oper} {v:Value} {L:Array Bool->Act->World->Prop} (hi:ops[i]?=some oi) (hsel:∀ (j:Nat) (o:Oper) cs b,ops[j]?=some o->o.op≠.select cs b)
 (hs:Region.sinkB md ops n=true) (hc:Region.chainB md ops n=true) (hn:n<ops.size) (hin:i<n)
 (hdone:∀ listed a w,L listed a w->∀ j∈Region.ready md ops listed,n<=j)
 (hQ:∀ c a w,Q (.panic c) (a.put oi.dst v) w->Q (.panic c) a w) :
 ∀ (f:Nat) (listed:Array Bool) (a:Act) (w:World),HeadInv md ops n listed ->
  (∀ j oj,ops[j]?=some oj->j≠i->listed.getD j true=false->(∀ e∈oj.after,Region.binds md e=true->e.on≠i)->oi.apart ops oj=true) ->
  i∈Region.ready md ops listed->YieldsIf P ops S oi v a->S w ->
  wpAnyHL P md ops Q S n L f (listed.setIfInBounds i true) (a.put oi.dst v) w->wpAnyHL P md ops Q S n L (f+1) listed a w:=by
 intro f
 induction f with
 | zero =>
   intro listed a w inv _ hr hy hS H
   have hun:=(mem_ready.1 hr).1
   refine ⟨fun h=>(by rw [h] at hr;cases hr),fun j hj=>?_⟩
   have hjn:j<n:=by
    rcases Nat.lt_or_ge j n with h | h
    . exact h
    . exact absurd hj (tail_waits hs hc hn inv _ i rfl hin hun j h)
   refine ⟨hjn,?_⟩
   by_cases hji:j=i
   . subst hji
     exact hy.wpOp hi hS ⟨hS,H⟩
   . have := hdone _ _ _ H j (ready_mono hj hji)
     omega
 | succ f ih =>
   intro listed a w inv hfree hr hy hS H
   have hun:=(mem_ready.1 hr).1
   refine ⟨fun h=>(by rw [h] at hr;cases hr),fun j hj=>?_⟩
   have hjn:j<n:=by
    rcases Nat.lt_or_ge j n with h | h
    . exact h
    . exact absurd hj (tail_waits hs hc hn inv _ i rfl hin hun j h)
   refine ⟨hjn,?_⟩
   by_cases hji:j=i
   . subst hji
     exact hy.wpOp hi hS ⟨hS,H⟩
   . have h1 := (H.2 j (ready_mono hj hji)).2
     obtain ⟨hjun,oj,hoj,hall⟩:=mem_ready.1 hj
     have hnot:∀ e∈oj.after,Region.binds md e=true->e.on≠i:=fun e he hb heq=>by
      have h1:=hall e he hb
      rw [heq,getD_both hun] at h1
      cases h1
     have h2:=wpOp_putIf hoj (hfree j oj hoj hji hjun hnot) (fun cs b=>hsel i oi cs b hi) (fun cs b=>hsel j oj cs b hoj) hQ hy h1
     have hfree':∀ k ok,ops[k]?=some ok->k≠i->(listed.setIfInBounds j true).getD k true=false ->
      (∀ e∈ok.after,Region.binds md e=true->e.on≠i)->oi.apart ops ok=true:=fun k ok hk hki hun hno=>by
      refine hfree k ok hk hki ?_ hno
      by_cases hjk:j=k
      . subst hjk;exact hjun
      . rw [getD_set_ne true hjk] at hun;exact hun
     refine wpOp_mono (fun a' w' h3=>⟨h3.2.1,ih (listed.setIfInBounds j true) a' w' (inv.set hj hjn) hfree' (ready_mono hr (Ne.symm hji)) h3.1 h3.2.1 ?_⟩) h2
     rw [Array.setIfInBounds_comm _ _ hji]
     exact h3.2.2
theorem qbA {o:Oper} (hg:o.guard=none) (t:Nat->Option Bool):Region.wanted o t=true:=by simp [Region.wanted,hg]
def wpMix (P:Program) (S:World->Prop) (K:Act->World->Prop):List (Bool × Oper)->Act->World->Prop
 | [],a,w=>K a w
 | (true,o) :: r,a,w=>∃ v,(o.guard=none/\∀ w,S w->(execOp a.eval o).run P w=.ok (.value v) w)/\wpMix P S K r (a.put o.dst v) w
 | (false,o) :: r,a,w => o.guard = none /\ ((∃ f args,(execOp a.eval o).run P w = .ok (.enter f args) w /\ Calls P f args w fun e w' => ∃ u,e = .returned u /\ S w' /\ wpMix P S K r (a.put o.dst u) w') \/
     (∃ v w',(execOp a.eval o).run P w=.ok (.value v) w'/\S w'/\wpMix P S K r (a.put o.dst v) w'))
theorem qeU {K:Act->World->Prop} {a:Act} {w:World} (h:K a w):wpMix P S K [] a w:=h
theorem qdA {K:Act->World->Prop} {o:Oper} {r:List (Bool × Oper)} {v:Value} {a:Act} {w:World} (hg:o.guard=none) (hr:∀ w,S w->(execOp a.eval o).run P w=.ok (.value v) w) (h:wpMix P S K r (a.put o.dst v) w):wpMix P S K ((true,o) :: r) a w:=⟨v,⟨hg,hr⟩,h⟩
theorem qdN {K:Act->World->Prop} {a:Act} {w:World} {o:Oper} {r:List (Bool × Oper)} (hg:o.guard=none) (ty:TypeId) (x:Operand) (ho:o.op=.load ty x)
 (b off:Nat) (hx:a.eval x=.pointer (some ⟨b,off,none⟩)) (cs:List Value) (d:TypeDesc) (hc:∀ w,S w->w.rangeAt b off cs)
 (hu:P.underlying ty=some d) (hd:d.isRow=true) (hi:(P.info? ty).map (·.size)=some cs.length)
 (h:wpMix P S K r (a.put o.dst (.agg cs.toArray)) w):wpMix P S K ((true,o) :: r) a w:=by
 refine qdA hg (fun W hW=>?_) h
 unfold execOp
 simp only [ho,hx,Instr.loadAt,Instr.sureAddr,Sem.run_bind,Sem.run_pure,Result.andThen_ok,run_loadVar_mid W b off ty cs d (hc W hW) hu hd hi]
theorem qdB {K:Act->World->Prop} {o:Oper} {r:List (Bool × Oper)} {f:FuncId} {args:Array Value} {a:Act} {w:World} (hg:o.guard=none) (hr:(execOp a.eval o).run P w=.ok (.enter f args) w)
 (h:Calls P f args w fun e w'=>∃ u,e=.returned u/\S w'/\wpMix P S K r (a.put o.dst u) w'):wpMix P S K ((false,o) :: r) a w:=⟨hg,.inl ⟨f,args,hr,h⟩⟩
theorem qfB {K:Act->World->Prop} {o:Oper} {r:List (Bool × Oper)} {v:Value} {w':World} {a:Act} {w:World} (hg:o.guard=none) (hr:(execOp a.eval o).run P w=.ok (.value v) w') (hS:S w')
 (h:wpMix P S K r (a.put o.dst v) w'):wpMix P S K ((false,o) :: r) a w:=⟨hg,.inr ⟨v,w',hr,hS,h⟩⟩
def Region.mixB (md:Region.Mode) (ops:Array Oper) (n g:Nat):List (Bool × Nat)->Array Bool->Bool
 | [],listed=>Region.seqB md ops g n listed
 | (true,k) :: r,listed=>(Region.ready md ops listed).contains k && Region.free md ops listed k && decide (k<n) && Region.mixB md ops n g r (listed.setIfInBounds k true)
 | (false,k) :: r,listed=>decide (Region.ready md ops listed=[k]) && decide (k<n) && Region.mixB md ops n g r (listed.setIfInBounds k true)
def Region.mixTailB (md:Region.Mode) (ops:Array Oper) (n:Nat) (ord:List (Bool × Nat)):Bool :=
 Region.noSelect ops && decide (n<ops.size) && Region.sinkB md ops n && Region.chainB md ops n && decide (ord.length=n) && Region.mixB md ops n (ops.size-n) ord (Array.replicate ops.size false)
theorem qeG {l:List Oper} {d:Oper} {Lq:Act->World->Prop} (hl:ops=l.toArray) (hsel:Region.noSelect ops=true) (hs:Region.sinkB md ops n=true) (hc:Region.chainB md ops n=true) (hn:n<ops.size) (hQ:∀ c (a:Act) (dst:Option Tmp) v w,Q (.panic c) (a.put dst v) w->Q (.panic c) a w) :
 ∀ (ord:List (Bool × Nat)) (listed:Array Bool) (a:Act) (w:World),HeadInv md ops n listed->Region.mixB md ops n g ord listed=true->S w->wpMix P S Lq (ord.map fun x=>(x.1,l.getD x.2 d)) a w ->
  wpAnyHL P md ops Q S n (fun listed' a' w'=>Region.seqB md ops g n listed'=true/\Lq a' w') ord.length listed a w
 | [],listed,a,w,_,hB,_,h=>⟨hB,h⟩
 | (true,k) :: r,listed,a,w,inv,hB,hS,h => by
   simp only [Region.mixB,Bool.and_eq_true,decide_eq_true_eq] at hB
   obtain ⟨⟨⟨hr,hf⟩,hkn⟩,hB'⟩:=hB
   have hr':k∈Region.ready md ops listed:=by simpa using hr
   obtain ⟨v,⟨hg,hy⟩,hK⟩:=h
   have hk:ops[k]?=some (l.getD k d):=by
    have hlt:k<l.length:=by have:=hn;rw [hl] at this;simp at this;omega
    rw [hl]
    simp [List.getD,hlt]
   exact wpAnyHL_first hk (Region.noSelect_spec hsel) hs hc hn hkn (fun listed' a' w' hL=>seqB_ready hL.1) (fun c a w=>hQ c a _ v w) r.length listed a w inv (Region.free_spec hk hf) hr' (.inl ⟨qbA hg _,hy⟩) hS
    (qeG hl hsel hs hc hn hQ r _ _ _ (inv.set hr' hkn) hB' hS hK)
 | (false,k) :: r,listed,a,w,inv,hB,hS,h => by
   simp only [Region.mixB,Bool.and_eq_true,decide_eq_true_eq] at hB
   obtain ⟨⟨hr,hkn⟩,hB'⟩:=hB
   obtain ⟨hg,hcase⟩:=h
   have hk:ops[k]?=some (l.getD k d):=by
    have hlt:k<l.length:=by have:=hn;rw [hl] at this;simp at this;omega
    rw [hl]
    simp [List.getD,hlt]
   refine ⟨fun h0=>(by rw [hr] at h0;cases h0),fun j hj=>?_⟩
   have hj':=hj
   rw [hr] at hj
   have hji:j=k:=by simpa using hj
   subst hji
   refine ⟨hkn,?_⟩
   unfold wpOp
   simp only [hk]
   rw [if_pos (qbA hg _)]
   refine .inl ?_
   unfold Oper.wp
   rcases hcase with ⟨f,args,hrun,hcall⟩ | ⟨v,w',hrun,hS',h1⟩
   . rw [hrun]
     exact hcall.mono fun e w' ⟨u,he,hS',h1⟩=>by
      subst he
      exact ⟨hS',qeG hl hsel hs hc hn hQ r _ _ _ (inv.set hj' hkn) hB' hS' h1⟩
   . rw [hrun]
     exact ⟨hS',qeG hl hsel hs hc hn hQ r _ _ _ (inv.set hj' hkn) hB' hS' h1⟩
theorem qbL {id:Nat} {a:Act} {w:World} {l:List Oper} (n:Nat) (S:World->Prop) (ord:List (Bool × Nat)) (d:Oper) (hm:P.follows .mixedOrders=true) (hB:Region.mixTailB .any l.toArray n ord=true) (hQ:∀ c (a:Act) (dst:Option Tmp) v w,Q (.panic c) (a.put dst v) w->Q (.panic c) a w)
 (hS:S w.drew) (h:wpMix P S (wpList P l.toArray Q (l.drop n)) (ord.map fun x=>(x.1,l.getD x.2 d)) a w.drew):(Code.region id l.toArray true).wp P Q a w:=by
 simp only [Region.mixTailB,Bool.and_eq_true,decide_eq_true_eq] at hB
 obtain ⟨⟨⟨⟨⟨hsel,hn⟩,hs⟩,hc⟩,hol⟩,hmix⟩:=hB
 have inv0:HeadInv .any l.toArray n (Array.replicate l.toArray.size false) :=
  ⟨by simp,fun j oj _ hl=>(by rw [getD_replicate_false] at hl;cases hl),fun t _ ht=>getD_in (by simpa using ht) (getD_replicate_false _ _)⟩
 have H:=qeG (P:=P) (Q:=Q) (md:=.any) (g:=l.toArray.size-n) rfl hsel hs hc hn hQ ord _ a w.drew inv0 hmix hS h
 refine wp_region_any hm ?_
 have:=wpAny_of_HL (g:=l.toArray.size-n) (fun listed' a' w' hL=>by
  have:=wpAny_of_seq (P:=P) (md:=.any) (Q':=Q) (l.drop n) n listed' a' w' (fun j=>by simp [List.getElem?_drop]) (by simpa using hL.1) hL.2
  simpa using this) _ _ a w.drew H
 rw [hol,show n+(l.toArray.size-n)=l.toArray.size by omega] at this
 exact this
end
end Go.Proofs.YtlmglaonldlanaaGreat
namespace Go.Proofs.YtlmglaonldlanaaGreat
section
variable {P:Program} {ops:Array Oper} {md:Region.Mode} {S:World->Prop} {Q:Exit->Act->World->Prop} {n g s:Nat}
def wpAnyHF (P:Program) (md:Region.Mode) (ops:Array Oper) (Q:Exit->Act->World->Prop) (S:World->Prop) (n s:Nat) (L:Array Bool->Act->World->Prop):Nat->Array Bool->Act->World->Prop
 | 0,listed,a,w=>L listed a w
 | f + 1,listed,a,w =>
   Region.ready md ops listed≠[]/\∀ i∈Region.ready md ops listed,i<n/\wpOp P ops Q i (fun a' w'=>((listed.setIfInBounds i true).getD s false=false->S w')/\wpAnyHF P md ops Q S n s L f (listed.setIfInBounds i true) a' w') a w
theorem qfM {L:Array Bool->Act->World->Prop} (hL:∀ listed a w,L listed a w->wpAny P md ops Q g listed a w) :
 ∀ (f:Nat) (listed:Array Bool) (a:Act) (w:World),wpAnyHF P md ops Q S n s L f listed a w->wpAny P md ops Q (f+g) listed a w
 | 0,listed,a,w,h=>by rw [Nat.zero_add];exact hL _ _ _ h
 | f + 1,listed,a,w,h => by
   rw [show f+1+g=(f+g)+1 by omega]
   exact ⟨fun h0=>absurd h0 h.1,fun i hi=>wpOp_mono (fun a' w' h'=>qfM hL f _ a' w' h'.2) (h.2 i hi).2⟩
theorem qaQ {listed:Array Bool} {i k:Nat} (h:i≠k):(listed.setIfInBounds i true).getD k false=listed.getD k false:=getD_set_ne false h
theorem qcG {i:Nat} {oi:Oper} {v:Value} {L:Array Bool->Act->World->Prop} (hi:ops[i]?=some oi) (hsel:∀ (j:Nat) (o:Oper) cs b,ops[j]?=some o->o.op≠.select cs b)
 (hs:Region.sinkB md ops n=true) (hc:Region.chainB md ops n=true) (hn:n<ops.size) (hin:i<n) (his:i≠s)
 (hdone:∀ listed a w,L listed a w->∀ j∈Region.ready md ops listed,n<=j)
 (hQ:∀ c a w,Q (.panic c) (a.put oi.dst v) w->Q (.panic c) a w) (T:World->Prop)
 (hT:(∀ w,T w)\/((∀ w,S w->T w)/\(Region.waitsFor md ops s i=true\/n<=s))) :
 ∀ (f:Nat) (listed:Array Bool) (a:Act) (w:World),HeadInv md ops n listed ->
  (∀ j oj,ops[j]?=some oj->j≠i->listed.getD j true=false->(∀ e∈oj.after,Region.binds md e=true->e.on≠i)->oi.apart ops oj=true) ->
  i∈Region.ready md ops listed->YieldsIf P ops T oi v a->T w->(listed.getD s false=false->S w) ->
  wpAnyHF P md ops Q S n s L f (listed.setIfInBounds i true) (a.put oi.dst v) w->wpAnyHF P md ops Q S n s L (f+1) listed a w:=by
 intro f
 induction f with
 | zero =>
   intro listed a w inv _ hr hy hTw hS H
   have hun:=(mem_ready.1 hr).1
   refine ⟨fun h=>(by rw [h] at hr;cases hr),fun j hj=>?_⟩
   have hjn:j<n:=by
    rcases Nat.lt_or_ge j n with h | h
    . exact h
    . exact absurd hj (tail_waits hs hc hn inv _ i rfl hin hun j h)
   refine ⟨hjn,?_⟩
   by_cases hji:j=i
   . subst hji
     exact hy.wpOp hi hTw ⟨fun h=>hS (by rwa [qaQ his] at h),H⟩
   . have := hdone _ _ _ H j (ready_mono hj hji)
     omega
 | succ f ih =>
   intro listed a w inv hfree hr hy hTw hS H
   have hun:=(mem_ready.1 hr).1
   refine ⟨fun h=>(by rw [h] at hr;cases hr),fun j hj=>?_⟩
   have hjn:j<n:=by
    rcases Nat.lt_or_ge j n with h | h
    . exact h
    . exact absurd hj (tail_waits hs hc hn inv _ i rfl hin hun j h)
   refine ⟨hjn,?_⟩
   by_cases hji:j=i
   . subst hji
     exact hy.wpOp hi hTw ⟨fun h=>hS (by rwa [qaQ his] at h),H⟩
   . have h1 := (H.2 j (ready_mono hj hji)).2
     obtain ⟨hjun,oj,hoj,hall⟩:=mem_ready.1 hj
     have hnot:∀ e∈oj.after,Region.binds md e=true->e.on≠i:=fun e he hb heq=>by
      have h1:=hall e he hb
      rw [heq,getD_both hun] at h1
      cases h1
     have h2:=wpOp_putIf hoj (hfree j oj hoj hji hjun hnot) (fun cs b=>hsel i oi cs b hi) (fun cs b=>hsel j oj cs b hoj) hQ hy h1
     have hfree':∀ k ok,ops[k]?=some ok->k≠i->(listed.setIfInBounds j true).getD k true=false ->
      (∀ e∈ok.after,Region.binds md e=true->e.on≠i)->oi.apart ops ok=true:=fun k ok hk hki hun hno=>by
      refine hfree k ok hk hki ?_ hno
      by_cases hjk:j=k
      . subst hjk;exact hjun
      . rw [getD_set_ne true hjk] at hun;exact hun
     have hflag:((listed.setIfInBounds i true).setIfInBounds j true).getD s false=(listed.setIfInBounds j true).getD s false:=by
      rw [Array.setIfInBounds_comm _ _ (Ne.symm hji),qaQ his]
     refine wpOp_mono (fun a' w' h3=>?_) h2
     have hS':(listed.setIfInBounds j true).getD s false=false->S w':=fun h=>h3.2.1 (by rw [hflag];exact h)
     have hT':T w':=by
      rcases hT with hT | ⟨hT,hw⟩
      . exact hT w'
      . refine hT w' (hS' ?_)
        rcases hw with hw | hw
        rotate_left
        . have inv2 := inv.set hj hjn
          rcases Nat.lt_or_ge s ops.size with h | h
          . exact getD_both (inv2.tail s hw h)
          . have hz : (listed.setIfInBounds j true).size <= s := by rw [inv2.size];exact h
            simp [Array.getD_eq_getD_getElem?,Array.getElem?_eq_none hz]
        have hjs:j≠s:=fun e=>by
         subst e
         obtain ⟨os,hos,e,he,hb,hon⟩:=Region.waitsFor_spec hw
         have:os=oj:=Option.some.inj (hos.symm.trans hoj)
         subst this
         exact hnot e he hb hon
        rw [qaQ hjs]
        cases hls:listed.getD s false with
        | false=>rfl
        | true =>
          obtain ⟨os,hos,e,he,hb,hon⟩:=Region.waitsFor_spec hw
          have:=inv.closed s os hos hls e he hb
          rw [hon,getD_both hun] at this
          cases this
     refine ⟨hS',ih (listed.setIfInBounds j true) a' w' (inv.set hj hjn) hfree' (ready_mono hr (Ne.symm hji)) h3.1 hT' hS' ?_⟩
     rw [Array.setIfInBounds_comm _ _ hji]
     exact h3.2.2
def wpMixF (P:Program) (S:World->Prop) (K:Act->World->Prop):List (Nat × Oper)->Act->World->Prop
 | [],a,w=>K a w
 | (0,o) :: r,a,w=>∃ v,(o.guard=none/\∀ w,S w->(execOp a.eval o).run P w=.ok (.value v) w)/\wpMixF P S K r (a.put o.dst v) w
 | (1,o) :: r,a,w=>∃ v,(o.guard=none/\∀ w,(execOp a.eval o).run P w=.ok (.value v) w)/\wpMixF P S K r (a.put o.dst v) w
 | (2,o) :: r,a,w => o.guard = none /\ ((∃ f args,(execOp a.eval o).run P w = .ok (.enter f args) w /\ Calls P f args w fun e w' => ∃ u,e = .returned u /\ S w' /\ wpMixF P S K r (a.put o.dst u) w') \/
     (∃ v w',(execOp a.eval o).run P w=.ok (.value v) w'/\S w'/\wpMixF P S K r (a.put o.dst v) w'))
 | (_,o) :: r,a,w=>o.guard=none/\∃ w',(execOp a.eval o).run P w=.ok .skip w'/\wpMixF P S K r (a.put o.dst undef) w'
section
variable {K:Act->World->Prop} {o:Oper} {r:List (Nat × Oper)} {a:Act} {w:World}
theorem qbZ (h:K a w):wpMixF P S K [] a w:=h
theorem qaZ {v:Value} (hg:o.guard=none) (hr:∀ w,S w->(execOp a.eval o).run P w=.ok (.value v) w) (h:wpMixF P S K r (a.put o.dst v) w):wpMixF P S K ((0,o) :: r) a w:=⟨v,⟨hg,hr⟩,h⟩
theorem qaR {v:Value} (hg:o.guard=none) (hr:∀ w,(execOp a.eval o).run P w=.ok (.value v) w) (h:wpMixF P S K r (a.put o.dst v) w):wpMixF P S K ((1,o) :: r) a w:=⟨v,⟨hg,hr⟩,h⟩
theorem qbV (hg:o.guard=none) (ty:TypeId) (x:Operand) (ho:o.op=.load ty x)
 (b off:Nat) (hx:a.eval x=.pointer (some ⟨b,off,none⟩)) (cs:List Value) (d:TypeDesc) (hc:∀ w,S w->w.rangeAt b off cs)
 (hu:P.underlying ty=some d) (hd:d.isRow=true) (hi:(P.info? ty).map (·.size)=some cs.length)
 (h:wpMixF P S K r (a.put o.dst (.agg cs.toArray)) w):wpMixF P S K ((0,o) :: r) a w:=by
 refine qaZ hg (fun W hW=>?_) h
 unfold execOp
 simp only [ho,hx,Instr.loadAt,Instr.sureAddr,Sem.run_bind,Sem.run_pure,Result.andThen_ok,run_loadVar_mid W b off ty cs d (hc W hW) hu hd hi]
theorem qcF {f:FuncId} {args:Array Value} (hg:o.guard=none) (hr:(execOp a.eval o).run P w=.ok (.enter f args) w)
 (h:Calls P f args w fun e w'=>∃ u,e=.returned u/\S w'/\wpMixF P S K r (a.put o.dst u) w'):wpMixF P S K ((2,o) :: r) a w:=⟨hg,.inl ⟨f,args,hr,h⟩⟩
theorem qdJ {v:Value} {w':World} (hg:o.guard=none) (hr:(execOp a.eval o).run P w=.ok (.value v) w') (hS:S w')
 (h:wpMixF P S K r (a.put o.dst v) w'):wpMixF P S K ((2,o) :: r) a w:=⟨hg,.inr ⟨v,w',hr,hS,h⟩⟩
theorem mixf_store {w':World} (hg:o.guard=none) (hr:(execOp a.eval o).run P w=.ok .skip w') (h:wpMixF P S K r (a.put o.dst undef) w'):wpMixF P S K ((3,o) :: r) a w:=⟨hg,w',hr,h⟩
end
def Region.mixFB (md:Region.Mode) (ops:Array Oper) (n g s:Nat):List (Nat × Nat)->Array Bool->Bool
 | [],listed=>Region.seqB md ops g n listed
 | (0,k) :: r,listed=>(Region.ready md ops listed).contains k && Region.free md ops listed k && decide (k<n) && decide (k≠s) && (Region.waitsFor md ops s k || decide (n<=s)) && !(listed.getD s false) && Region.mixFB md ops n g s r (listed.setIfInBounds k true)
 | (1,k) :: r,listed=>(Region.ready md ops listed).contains k && Region.free md ops listed k && decide (k<n) && decide (k≠s) && Region.mixFB md ops n g s r (listed.setIfInBounds k true)
 | (2,k) :: r,listed=>decide (Region.ready md ops listed=[k]) && decide (k<n) && Region.mixFB md ops n g s r (listed.setIfInBounds k true)
 | (_,k) :: r,listed=>decide (Region.ready md ops listed=[k]) && decide (k<n) && decide (k=s) && (listed.setIfInBounds k true).getD s false && Region.mixFB md ops n g s r (listed.setIfInBounds k true)
def Region.mixFTailB (md:Region.Mode) (ops:Array Oper) (n s:Nat) (ord:List (Nat × Nat)):Bool :=
 Region.noSelect ops && decide (n<ops.size) && Region.sinkB md ops n && Region.chainB md ops n && decide (ord.length=n) && Region.mixFB md ops n (ops.size-n) s ord (Array.replicate ops.size false)
theorem qdV {l:List Oper} {d:Oper} {k:Nat} (hl:ops=l.toArray) (hkn:k<n) (hn:n<ops.size):ops[k]?=some (l.getD k d):=by
 have hlt:k<l.length:=by rw [hl] at hn;simp at hn;omega
 rw [hl]
 simp [List.getD,hlt]
theorem qcA {l:List Oper} {d:Oper} {Lq:Act->World->Prop} (hl:ops=l.toArray) (hsel:Region.noSelect ops=true) (hs:Region.sinkB md ops n=true) (hc:Region.chainB md ops n=true) (hn:n<ops.size) (hQ:∀ c (a:Act) (dst:Option Tmp) v w,Q (.panic c) (a.put dst v) w->Q (.panic c) a w) :
 ∀ (ord:List (Nat × Nat)) (listed:Array Bool) (a:Act) (w:World),HeadInv md ops n listed->Region.mixFB md ops n g s ord listed=true->(listed.getD s false=false->S w)->wpMixF P S Lq (ord.map fun x=>(x.1,l.getD x.2 d)) a w ->
  wpAnyHF P md ops Q S n s (fun listed' a' w'=>Region.seqB md ops g n listed'=true/\Lq a' w') ord.length listed a w
 | [],listed,a,w,_,hB,_,h=>⟨hB,h⟩
 | (0,k) :: r,listed,a,w,inv,hB,hS,h => by
   simp only [Region.mixFB,Bool.and_eq_true,Bool.or_eq_true,decide_eq_true_eq,Bool.not_eq_true'] at hB
   obtain ⟨⟨⟨⟨⟨⟨hr,hf⟩,hkn⟩,hks⟩,hw⟩,hls⟩,hB'⟩:=hB
   have hr':k∈Region.ready md ops listed:=by simpa using hr
   obtain ⟨v,⟨hg,hy⟩,hK⟩:=h
   have hk:=qdV (d:=d) hl hkn hn
   exact qcG hk (Region.noSelect_spec hsel) hs hc hn hkn hks (fun listed' a' w' hL=>seqB_ready hL.1) (fun c a w=>hQ c a _ v w) S (.inr ⟨fun _ h=>h,hw⟩) r.length listed a w inv (Region.free_spec hk hf) hr' (.inl ⟨qbA hg _,hy⟩) (hS hls) hS
    (qcA hl hsel hs hc hn hQ r _ _ _ (inv.set hr' hkn) hB' (fun h=>hS (by rwa [qaQ hks] at h)) hK)
 | (1,k) :: r,listed,a,w,inv,hB,hS,h => by
   simp only [Region.mixFB,Bool.and_eq_true,decide_eq_true_eq] at hB
   obtain ⟨⟨⟨⟨hr,hf⟩,hkn⟩,hks⟩,hB'⟩:=hB
   have hr':k∈Region.ready md ops listed:=by simpa using hr
   obtain ⟨v,⟨hg,hy⟩,hK⟩:=h
   have hk:=qdV (d:=d) hl hkn hn
   exact qcG hk (Region.noSelect_spec hsel) hs hc hn hkn hks (fun listed' a' w' hL=>seqB_ready hL.1) (fun c a w=>hQ c a _ v w) (fun _=>True) (.inl fun _=>trivial) r.length listed a w inv (Region.free_spec hk hf) hr' (.inl ⟨qbA hg _,fun w _=>hy w⟩) trivial hS
    (qcA hl hsel hs hc hn hQ r _ _ _ (inv.set hr' hkn) hB' (fun h=>hS (by rwa [qaQ hks] at h)) hK)
 | (2,k) :: r,listed,a,w,inv,hB,hS,h => by
   simp only [Region.mixFB,Bool.and_eq_true,decide_eq_true_eq] at hB
   obtain ⟨⟨hr,hkn⟩,hB'⟩:=hB
   obtain ⟨hg,hcase⟩:=h
   have hk:=qdV (d:=d) hl hkn hn
   refine ⟨fun h0=>(by rw [hr] at h0;cases h0),fun j hj=>?_⟩
   have hj':=hj
   rw [hr] at hj
   have hji:j=k:=by simpa using hj
   subst hji
   refine ⟨hkn,?_⟩
   unfold wpOp
   simp only [hk]
   rw [if_pos (qbA hg _)]
   refine .inl ?_
   unfold Oper.wp
   rcases hcase with ⟨f,args,hrun,hcall⟩ | ⟨v,w',hrun,hS',h1⟩
   . rw [hrun]
     exact hcall.mono fun e w' ⟨u,he,hS',h1⟩=>by
      subst he
      exact ⟨fun _=>hS',qcA hl hsel hs hc hn hQ r _ _ _ (inv.set hj' hkn) hB' (fun _=>hS') h1⟩
   . rw [hrun]
     exact ⟨fun _=>hS',qcA hl hsel hs hc hn hQ r _ _ _ (inv.set hj' hkn) hB' (fun _=>hS') h1⟩
 | (t + 3,k) :: r,listed,a,w,inv,hB,hS,h => by
   simp only [Region.mixFB,Bool.and_eq_true,decide_eq_true_eq] at hB
   obtain ⟨⟨⟨⟨hr,hkn⟩,hks⟩,hfl⟩,hB'⟩:=hB
   obtain ⟨hg,w',hrun,h1⟩:=h
   have hk:=qdV (d:=d) hl hkn hn
   refine ⟨fun h0=>(by rw [hr] at h0;cases h0),fun j hj=>?_⟩
   have hj':=hj
   rw [hr] at hj
   have hji:j=k:=by simpa using hj
   subst hji
   refine ⟨hkn,?_⟩
   unfold wpOp
   simp only [hk]
   rw [if_pos (qbA hg _)]
   refine .inl ?_
   unfold Oper.wp
   rw [hrun]
   have hno:(listed.setIfInBounds j true).getD s false=false->S w':=fun h=>by rw [hfl] at h;cases h
   exact ⟨hno,qcA hl hsel hs hc hn hQ r _ _ _ (inv.set hj' hkn) hB' hno h1⟩
theorem qaX {id:Nat} {a:Act} {w:World} {l:List Oper} (n s:Nat) (S:World->Prop) (ord:List (Nat × Nat)) (d:Oper) (hm:P.follows .mixedOrders=true) (hB:Region.mixFTailB .any l.toArray n s ord=true) (hQ:∀ c (a:Act) (dst:Option Tmp) v w,Q (.panic c) (a.put dst v) w->Q (.panic c) a w)
 (hS:S w.drew) (h:wpMixF P S (wpList P l.toArray Q (l.drop n)) (ord.map fun x=>(x.1,l.getD x.2 d)) a w.drew):(Code.region id l.toArray true).wp P Q a w:=by
 simp only [Region.mixFTailB,Bool.and_eq_true,decide_eq_true_eq] at hB
 obtain ⟨⟨⟨⟨⟨hsel,hn⟩,hs⟩,hc⟩,hol⟩,hmix⟩:=hB
 have inv0:HeadInv .any l.toArray n (Array.replicate l.toArray.size false) :=
  ⟨by simp,fun j oj _ hl=>(by rw [getD_replicate_false] at hl;cases hl),fun t _ ht=>getD_in (by simpa using ht) (getD_replicate_false _ _)⟩
 have H:=qcA (P:=P) (Q:=Q) (md:=.any) (g:=l.toArray.size-n) rfl hsel hs hc hn hQ ord _ a w.drew inv0 hmix (fun _=>hS) h
 refine wp_region_any hm ?_
 have:=qfM (g:=l.toArray.size-n) (fun listed' a' w' hL=>by
  have:=wpAny_of_seq (P:=P) (md:=.any) (Q':=Q) (l.drop n) n listed' a' w' (fun j=>by simp [List.getElem?_drop]) (by simpa using hL.1) hL.2
  simpa using this) _ _ a w.drew H
 rw [hol,show n+(l.toArray.size-n)=l.toArray.size by omega] at this
 exact this
end
end Go.Proofs.YtlmglaonldlanaaGreat
namespace Go.Proofs.YtlmglaonldlanaaGreat
section
variable {P:Program} {ops:Array Oper} {md:Region.Mode} {S:World->Prop} {Q:Exit->Act->World->Prop} {n g s m:Nat} {F:Fence}
structure NoBar (F:Fence):Prop where
 fn:∀ f,F.fn f
 depth:F.depth=none
 fenced:∀ (P:Program) (mm:Machine),Machine.fenced P F mm
theorem noBar_wide:NoBar Fence.wide:=⟨fun _=>trivial,rfl,fun P mm=>fenced_wide P mm⟩
theorem NoBar.inRound (h:NoBar F) (l:Nat):NoBar (F.inRound l):=⟨h.fn,h.depth,fun P mm=>h.fenced P mm⟩
theorem NoBar.steps (h:NoBar F) {a b:Machine} (hs:Steps P a b):StepsIn (Machine.fenced P F) P a b:=(StepsIn.of_steps hs).mono fun mm _=>h.fenced P mm
theorem NoBar.calls (h:NoBar F) {f:FuncId} {args:Array Value} {w:World} {R:Ending->World->Prop} (hc:Calls P f args w R):CallsIn F m P f args w R :=
 ⟨h.fn f,fun cs _ => by
   obtain ⟨e,w',fr,r,s,x⟩:=((callsIn_wide (n:=0)).2 hc).2 cs (room_wide _)
   refine ⟨e,w',fr,r,?_,x⟩
   cases e with
   | outgrown=>exact s
   | returned v=>exact StepsIn.mono (fun mm _=>h.fenced P mm) s
   | panicked c=>exact StepsIn.mono (fun mm _=>h.fenced P mm) s⟩
theorem NoBar.rows (h:NoBar F) {row:String} {args:Array Value} {w:World} {R:Value->World->Prop} (hc:Rows P row args w R):RowsIn F m P row args w R :=
 fun c cs _=>let ⟨v,w',r,s⟩:=hc c cs;⟨v,w',r,h.steps s⟩
theorem NoBar.ask (h:NoBar F) (k:Nat):F.depth.isSome=true->1<=k:=fun hd=>by rw [h.depth] at hd;cases hd
def noDefer (ops:Array Oper):Bool:=ops.all fun o=>match o.op with | .defer _=>false | _=>true
theorem noDefer_at {i:Nat} {o:Oper} (h:noDefer ops=true) (hi:ops[i]?=some o):∀ c,o.op≠.defer c:=fun c hc=>by
 unfold noDefer at h
 rw [Array.all_eq_true] at h
 obtain ⟨hlt,he⟩:=Array.getElem?_eq_some_iff.1 hi
 have:=h i hlt
 rw [he,hc] at this
 cases this
theorem wpOpIn_of_wpOp {i:Nat} {K K':Act->World->Prop} {a:Act} {w:World} (hF:NoBar F) (hd:noDefer ops=true) (hK:∀ a w,K a w->K' a w)
 (h:wpOp P ops (fun _ _ _=>False) i K a w):wpOpIn F m P ops Q i K' a w:=by
 unfold wpOp at h
 unfold wpOpIn
 cases hi:ops[i]? with
 | none=>rw [hi] at h;exact hK _ _ h
 | some o =>
   rw [hi] at h
   simp only at h ⊢
   by_cases hw:Region.wanted o (yielded ops a.tmps)=true
   . rw [if_pos hw] at h ⊢
     rcases h with h | ⟨_,_,_,h⟩
     . refine ⟨fun f _ => hF.fn f,?_⟩
       rw [Oper.semAt_eq _ _ _ (noDefer_at hd hi)]
       unfold Oper.wp at h
       generalize (execOp a.eval o).run P w=r at *
       cases r with
       | ok nx w' =>
         cases nx <;> simp only [Oper.upon,Oper.uponIn] at h ⊢
         case value=>exact hK _ _ h
         case skip=>exact hK _ _ h
         case defer=>exact hK _ _ h
         case enter f args =>
          refine ⟨hF.ask m,(hF.calls h).mono fun e w'' he=>?_⟩
          cases e with
          | returned v=>exact hK _ _ he
          | panicked c=>exact he.elim
          | outgrown=>obtain ⟨_,_,h⟩:=he;exact h.elim
         case row row args=>exact ⟨hF.ask m,(hF.rows h).mono fun v w'' hv=>hK _ _ hv⟩
       | halt x w'=>cases x <;> simp only [Oper.upon] at h
     . exact h.elim
   . rw [if_neg hw] at h ⊢
     exact ⟨fun f _=>hF.fn f,hK _ _ h⟩
theorem wpAnyIn_of_HF (hF:NoBar F) (hd:noDefer ops=true) {L:Array Bool->Act->World->Prop} (hL:∀ listed a w,L listed a w->wpAnyIn F m P md ops Q g listed a w) :
 ∀ (f:Nat) (listed:Array Bool) (a:Act) (w:World),wpAnyHF P md ops (fun _ _ _=>False) S n s L f listed a w->wpAnyIn F m P md ops Q (f+g) listed a w
 | 0,listed,a,w,h=>by rw [Nat.zero_add];exact hL _ _ _ h
 | f + 1,listed,a,w,h => by
   rw [show f+1+g=(f+g)+1 by omega]
   exact ⟨fun h0=>absurd h0 h.1,fun i hi=>wpOpIn_of_wpOp hF hd (fun a' w' h'=>wpAnyIn_of_HF hF hd hL f _ a' w' h'.2) (h.2 i hi).2⟩
theorem qfF:∀ (l:List Oper) (k:Nat) (listed:Array Bool) (a:Act) (w:World),(∀ j,l[j]?=ops[k+j]?) ->
 Region.seqB md ops l.length k listed=true->wpListIn F m P ops Q l a w->wpAnyIn F m P md ops Q l.length listed a w
 | [],_,_,_,_,_,hB,h=>⟨by simpa [Region.seqB] using hB,h⟩
 | o :: l,k,listed,a,w,hl,hB,h => by
   have h0:ops[k]?=some o:=by simpa using (hl 0).symm
   simp only [List.length_cons,Region.seqB,Bool.and_eq_true,decide_eq_true_eq] at hB
   refine ⟨fun h1=>(by rw [hB.1] at h1;cases h1),fun i hi=>?_⟩
   rw [hB.1] at hi
   have hik:i=k:=by simpa using hi
   subst hik
   have hw:wpOpIn F m P ops Q i (wpListIn F m P ops Q l) a w:=by unfold wpOpIn;simp only [h0];exact h
   exact wpOpIn_mono (fun a' w' h'=>qfF l (i+1) _ a' w' (fun j=>by have:=hl (j+1);simpa [Nat.add_assoc,Nat.add_comm 1 j] using this) hB.2 h') hw
theorem qeL {id:Nat} {a:Act} {w:World} {l:List Oper} (n s:Nat) (S:World->Prop) (ord:List (Nat × Nat)) (d:Oper) (hF:NoBar F) (hm:P.follows .mixedOrders=true) (hB:Region.mixFTailB .any l.toArray n s ord=true) (hd:noDefer l.toArray=true)
 (hS:S w.drew) (h:wpMixF P S (wpListIn F m P l.toArray Q (l.drop n)) (ord.map fun x=>(x.1,l.getD x.2 d)) a w.drew):(Code.region id l.toArray true).wpIn F m P Q a w:=by
 simp only [Region.mixFTailB,Bool.and_eq_true,decide_eq_true_eq] at hB
 obtain ⟨⟨⟨⟨⟨hsel,hn⟩,hs⟩,hc⟩,hol⟩,hmix⟩:=hB
 have inv0:HeadInv .any l.toArray n (Array.replicate l.toArray.size false) :=
  ⟨by simp,fun j oj _ hl=>(by rw [getD_replicate_false] at hl;cases hl),fun t _ ht=>getD_in (by simpa using ht) (getD_replicate_false _ _)⟩
 have H:=qcA (P:=P) (Q:=fun _ _ _=>False) (md:=.any) (g:=l.toArray.size-n) rfl hsel hs hc hn (fun _ _ _ _ _ h=>h.elim) ord _ a w.drew inv0 hmix (fun _=>hS) h
 refine wpIn_region_any hm ?_
 have:=wpAnyIn_of_HF (F:=F) (m:=m) (Q:=Q) (g:=l.toArray.size-n) hF hd (fun listed' a' w' hL=>by
  have:=qfF (F:=F) (m:=m) (P:=P) (md:=.any) (Q:=Q) (l.drop n) n listed' a' w' (fun j=>by simp [List.getElem?_drop]) (by simpa using hL.1) hL.2
  simpa using this) _ _ a w.drew H
 rw [hol,show n+(l.toArray.size-n)=l.toArray.size by omega] at this
 exact this
end
end Go.Proofs.YtlmglaonldlanaaGreat
namespace Go.Proofs.YtlmglaonldlanaaGreat
open Go.RowKit
section
variable {P:Program}
theorem qaI {ops:Array Oper} {rest:List Oper} {o:Oper} {a:Act} {Q:Exit->Act->World->Prop} (hgd:o.guard=none) (ty:TypeId) (x y:Operand) (ho:o.op=.store ty x y)
 (w:World) (c c':Array Value) (hx:a.eval x=.pointer (some ⟨w.heap.size,0,none⟩)) (hy:a.eval y=.agg c')
 (hi:(P.info? ty).map (·.size)=some c'.size) (hs:c.size=c'.size) (h1:c'.all (·.oneCell')=true)
 (h:wpList P ops Q rest (a.put o.dst undef) (w.alloc (.cells c' ty))):wpList P ops Q (o :: rest) a (w.alloc (.cells c ty)) :=
 wpList_plain hgd fun _ hK=>by
  unfold Oper.wp execOp
  simp only [ho,hx,hy,Sem.run_bind,run_storeAt_new w ty c c' hi hs h1,Result.andThen_ok,Sem.run_pure]
  exact hK _ _ h
end
theorem qaD {k:IntKind} {a b:Int} (h:a=b):Ending.returned (.int k a)=.returned (.int k b):=by rw [h]
theorem qaO {a b:Bool} (h:a=b):Ending.returned (.bool a)=.returned (.bool b):=by rw [h]
theorem qaA {B:Nat} {a w:World} (h:Below B a w) (n:Nat):Below B a (w.drewN n):=⟨h.os,h.tape,h.output,h.size,h.block⟩
theorem qbD {B:Nat} {a w:World} (h:Below B a w) {g:Nat} (hg:B<=g) (cs:Array Value):Below B a (w.setRow g cs) :=
 h.trans ⟨rfl,rfl,rfl,by simp,fun k hk=>setRow_other w g k cs (by omega)⟩
end Go.Proofs.YtlmglaonldlanaaGreat
