/-
 A region that draws its order, each operation of which yields ONE value in every world that meets a condition S and keeps S (loads of cells that nobody writes, arithmetic, calls that only make memory): whatever the order, its slots end as in the order of the text, and S holds behind it. After the library's Still and StillTail (one world), with 'every world that meets S' in the place of one world. The program's field: the order, primes, digits and values. Rows of integers in memory: rows of the call's own, slices that are read. The program's field: digits and values.
-/
import Derived.StillTail
import Derived.Tactics
import Derived.KernelRfl
import Derived.Test.YtlmglaonldlanaaGreatProg
import Derived.WalkLawsBesides
import Derived.WalkSpells
import Derived.LoopTactic
import Derived.Outline
import Derived.Lib.Hide
import Derived.Deep.LoopGhost
import Derived.Laws.OwnMore
import Derived.OwnWalk
import Derived.Deep.AppendLies
import Derived.Laws.MakeOwn
import Derived.Test.YtlmglaonldlanaaGreatQ01
import Derived.Test.YtlmglaonldlanaaGreatQ02
namespace Go.Proofs.YtlmglaonldlanaaGreat
section
variable {P:Program} {ops:Array Oper} {md:Region.Mode} {S:World->Prop}
def ResS (P:Program) (S:World->Prop) (v:Value):Result Next->Prop
 | .ok (.value u) w'=>u=v/\S w'
 | .ok .skip w'=>v=undef/\S w'
 | .ok (.enter f args) w'=>Calls P f args w' (fun e w''=>e=.returned v/\S w'')
 | _=>False
def YieldsS (P:Program) (ops:Array Oper) (S:World->Prop) (o:Oper) (v:Value) (a:Act):Prop :=
 (Region.wanted o (yielded ops a.tmps)=true/\∀ w,S w->ResS P S v ((execOp a.eval o).run P w)) \/
 (Region.wanted o (yielded ops a.tmps)=false/\v=undef)
theorem YieldsS.of_same {o:Oper} {v:Value} {a a':Act} (hy:YieldsS P ops S o v a) (he:execOp a'.eval o=execOp a.eval o)
 (hw:Region.wanted o (yielded ops a'.tmps)=Region.wanted o (yielded ops a.tmps)):YieldsS P ops S o v a':=by
 unfold YieldsS at *
 rw [he,hw]
 exact hy
def wpKeep (P:Program) (ops:Array Oper) (S:World->Prop) (Q:Act->Prop):List Oper->Act->Prop
 | [],a=>Q a
 | o :: rest,a=>∃ v,YieldsS P ops S o v a/\wpKeep P ops S Q rest (a.put o.dst v)
def kOp (P:Program) (ops:Array Oper) (S:World->Prop) (i:Nat) (K:Act->Prop) (a:Act):Prop :=
 match ops[i]? with
 | none=>K a
 | some o=>∃ v,YieldsS P ops S o v a/\K (a.put o.dst v)
theorem kOp_mono {i:Nat} {a:Act} {K K':Act->Prop} (h:∀ a,K a->K' a) (hh:kOp P ops S i K a):kOp P ops S i K' a:=by
 unfold kOp at *
 split
 . rename_i ho
   simp only [ho] at hh
   exact h _ hh
 . rename_i o ho
   simp only [ho] at hh
   obtain ⟨v,h1,h2⟩:=hh
   exact ⟨v,h1,h _ h2⟩
theorem wpOp_of_kOp {i:Nat} {a:Act} {w:World} {K:Act->Prop} {K':Act->World->Prop} {Q':Exit->Act->World->Prop} (h:∀ a w,S w->K a->K' a w) (hS:S w) (hh:kOp P ops S i K a):wpOp P ops Q' i K' a w:=by
 unfold kOp at hh
 unfold wpOp
 split
 . rename_i ho
   simp only [ho] at hh
   exact h _ _ hS hh
 . rename_i o ho
   simp only [ho] at hh
   obtain ⟨v,hy,hk⟩:=hh
   rcases hy with ⟨hw,hv⟩ | ⟨hw,rfl⟩
   . simp only [hw,if_true]
     refine .inl ?_
     have hr:=hv w hS
     unfold Oper.wp
     generalize (execOp a.eval o).run P w=r at *
     cases r with
     | ok n w' =>
       cases n <;> simp only [ResS] at hr <;> simp only [Oper.upon]
       case value u=>obtain ⟨rfl,hs⟩:=hr;exact h _ _ hs hk
       case skip=>obtain ⟨rfl,hs⟩:=hr;exact h _ _ hs hk
       case enter f args=>exact hr.mono fun e w'' ⟨he,hs⟩=>by subst he;exact h _ _ hs hk
     | halt x w'=>simp only [ResS] at hr
   . simp only [hw]
     exact h _ _ hS hk
theorem kOp_put {j:Nat} {oi oj:Oper} {v:Value} (hj:ops[j]?=some oj) (hap:oi.apart ops oj=true)
 (hsi:∀ cs b,oi.op≠.select cs b) (hsj:∀ cs b,oj.op≠.select cs b) {K:Act->Prop} {a:Act}
 (hy:YieldsS P ops S oi v a) (h:kOp P ops S j K (a.put oi.dst v)) :
 kOp P ops S j (fun a'=>YieldsS P ops S oi v a'/\K (a'.put oi.dst v)) a:=by
 obtain ⟨h1,h2,h3⟩:=Oper.apart_spec hap
 unfold kOp at *
 simp only [hj] at *
 obtain ⟨u,hu,hk⟩:=h
 refine ⟨u,hu.of_same (execOp_put oj hsj a oi.dst v h1).symm (wanted_put oj a oi.dst v h1).symm,hy.of_same (execOp_put oi hsi a oj.dst u h3) (wanted_put oi a oj.dst u h3),?_⟩
 rw [<- Act.put_comm a v u h2]
 exact hk
def wpAnyK (P:Program) (md:Region.Mode) (ops:Array Oper) (S:World->Prop) (Q:Act->Prop):Nat->Array Bool->Act->Prop
 | 0,listed,a=>Region.ready md ops listed=[]/\Q a
 | fuel + 1,listed,a =>
   (Region.ready md ops listed=[]->Q a) /\
   ∀ i∈Region.ready md ops listed,kOp P ops S i (wpAnyK P md ops S Q fuel (listed.setIfInBounds i true)) a
theorem wpAny_of_keep {Q:Act->Prop} {Q':Exit->Act->World->Prop} (hQ:∀ a w,S w->Q a->Q' .normal a w):∀ (fuel:Nat) (listed:Array Bool) (a:Act) (w:World),S w ->
 wpAnyK P md ops S Q fuel listed a->wpAny P md ops Q' fuel listed a w
 | 0,_,_,_,hS,h=>⟨h.1,hQ _ _ hS h.2⟩
 | fuel+1,_,_,_,hS,h=>⟨fun h0=>hQ _ _ hS (h.1 h0),fun i hi=>wpOp_of_kOp (fun a' w' hs=>wpAny_of_keep hQ fuel _ a' w' hs) hS (h.2 i hi)⟩
theorem wpAnyK_first {Q:Act->Prop} {i:Nat} {oi:Oper} {v:Value} (hi:ops[i]?=some oi) (hsel:∀ (j:Nat) (o:Oper) cs b,ops[j]?=some o->o.op≠.select cs b) :
 ∀ (fuel:Nat) (listed:Array Bool) (a:Act),
  (∀ j oj,ops[j]?=some oj->j≠i->listed.getD j true=false->(∀ e∈oj.after,Region.binds md e=true->e.on≠i)->oi.apart ops oj=true) ->
  i∈Region.ready md ops listed->YieldsS P ops S oi v a ->
  wpAnyK P md ops S Q fuel (listed.setIfInBounds i true) (a.put oi.dst v)->wpAnyK P md ops S Q (fuel+1) listed a:=by
 intro fuel
 induction fuel with
 | zero =>
   intro listed a _ hr hy H
   refine ⟨fun h=>(by rw [h] at hr;cases hr),fun j hj=>?_⟩
   by_cases hji:j=i
   . subst hji
     unfold kOp
     simp only [hi]
     exact ⟨v,hy,H⟩
   . have := ready_mono hj hji
     rw [H.1] at this
     cases this
 | succ fuel ih =>
   intro listed a hfree hr hy H
   refine ⟨fun h=>(by rw [h] at hr;cases hr),fun j hj=>?_⟩
   by_cases hji:j=i
   . subst hji
     unfold kOp
     simp only [hi]
     exact ⟨v,hy,H⟩
   . have h1 := H.2 j (ready_mono hj hji)
     obtain ⟨hjun,oj,hoj,hall⟩:=mem_ready.1 hj
     have hnot:∀ e∈oj.after,Region.binds md e=true->e.on≠i:=fun e he hb heq=>by
      have h1:=hall e he hb
      have h0:=(mem_ready.1 hr).1
      rw [heq] at h1
      rcases Nat.lt_or_ge i listed.size with h' | h'
      . simp [h'] at h0 h1;rw [h0] at h1;cases h1
      . simp [Array.getElem?_eq_none h'] at h1
     have h2:=kOp_put hoj (hfree j oj hoj hji hjun hnot) (fun cs b=>hsel i oi cs b hi) (fun cs b=>hsel j oj cs b hoj) hy h1
     have hfree':∀ k ok,ops[k]?=some ok->k≠i->(listed.setIfInBounds j true).getD k true=false ->
      (∀ e∈ok.after,Region.binds md e=true->e.on≠i)->oi.apart ops ok=true:=fun k ok hk hki hun hno=>by
      refine hfree k ok hk hki ?_ hno
      by_cases hjk:j=k
      . subst hjk;exact hjun
      . rw [getD_set_ne true hjk] at hun;exact hun
     refine kOp_mono (fun a' h3=>ih (listed.setIfInBounds j true) a' hfree' (ready_mono hr (Ne.symm hji)) h3.1 ?_) h2
     rw [Array.setIfInBounds_comm _ _ hji]
     exact h3.2
theorem wpAnyK_lex {Q:Act->Prop} (hs:Region.noSelect ops=true):∀ (l:List Oper) (k:Nat) (listed:Array Bool) (a:Act),(∀ j,l[j]?=ops[k+j]?) ->
 Region.lexFrom md ops l.length k listed=true->wpKeep P ops S Q l a->wpAnyK P md ops S Q l.length listed a
 | [],_,_,_,_,hB,h=>⟨by simpa [Region.lexFrom] using hB,h⟩
 | o :: l,k,listed,a,hl,hB,h => by
   have h0:ops[k]?=some o:=by simpa using (hl 0).symm
   simp only [List.length_cons,Region.lexFrom,Bool.and_eq_true] at hB
   obtain ⟨⟨hr,hf⟩,hB'⟩:=hB
   obtain ⟨v,hy,hK⟩:=h
   exact wpAnyK_first h0 (Region.noSelect_spec hs) l.length listed a (Region.free_spec h0 hf) (by simpa using hr) hy
    (wpAnyK_lex hs l (k+1) _ _ (fun j=>by have:=hl (j+1);simpa [Nat.add_assoc,Nat.add_comm 1 j] using this) hB' hK)
theorem qaH {id:Nat} {Q:Exit->Act->World->Prop} {a:Act} {w:World} {l:List Oper} (S:World->Prop) (hm:P.follows .mixedOrders=true) (hB:Region.lexB .any l.toArray=true)
 (hS:S w.drew) (h:wpKeep P l.toArray S (fun a'=>∀ w',S w'->Q .normal a' w') l a):(Code.region id l.toArray true).wp P Q a w:=by
 simp only [Region.lexB,Bool.and_eq_true] at hB
 refine wp_region_any hm ?_
 have h2:=wpAnyK_lex (md:=.any) (S:=S) hB.1 l 0 (Array.replicate l.toArray.size false) a (by simp) (by simpa using hB.2) h
 have h3:=wpAny_of_keep (Q':=Q) (fun a w hs hq=>hq w hs) _ _ a { w with drawn:=w.drawn+1 } hS h2
 simpa using h3
def wpAnyKL (P:Program) (md:Region.Mode) (ops:Array Oper) (S:World->Prop) (n:Nat) (L:Array Bool->Act->Prop):Nat->Array Bool->Act->Prop
 | 0,listed,a=>L listed a
 | f + 1,listed,a =>
   Region.ready md ops listed≠[]/\∀ i∈Region.ready md ops listed,i<n/\kOp P ops S i (wpAnyKL P md ops S n L f (listed.setIfInBounds i true)) a
theorem qfI {n g:Nat} {L:Array Bool->Act->Prop} {Q':Exit->Act->World->Prop} (hL:∀ listed a w,S w->L listed a->wpAny P md ops Q' g listed a w) :
 ∀ (f:Nat) (listed:Array Bool) (a:Act) (w:World),S w->wpAnyKL P md ops S n L f listed a->wpAny P md ops Q' (f+g) listed a w
 | 0,listed,a,w,hS,h=>by rw [Nat.zero_add];exact hL _ _ _ hS h
 | f + 1,listed,a,w,hS,h => by
   rw [show f+1+g=(f+g)+1 by omega]
   exact ⟨fun h0=>absurd h0 h.1,fun i hi=>wpOp_of_kOp (fun a' w' hs h'=>qfI hL f _ a' w' hs h') hS (h.2 i hi).2⟩
theorem wpAnyKL_first {n i:Nat} {oi:Oper} {v:Value} {L:Array Bool->Act->Prop} (hi:ops[i]?=some oi) (hsel:∀ (j:Nat) (o:Oper) cs b,ops[j]?=some o->o.op≠.select cs b)
 (hs:Region.sinkB md ops n=true) (hc:Region.chainB md ops n=true) (hn:n<ops.size) (hin:i<n)
 (hdone:∀ listed a,L listed a->∀ j∈Region.ready md ops listed,n<=j) :
 ∀ (f:Nat) (listed:Array Bool) (a:Act),HeadInv md ops n listed ->
  (∀ j oj,ops[j]?=some oj->j≠i->listed.getD j true=false->(∀ e∈oj.after,Region.binds md e=true->e.on≠i)->oi.apart ops oj=true) ->
  i∈Region.ready md ops listed->YieldsS P ops S oi v a ->
  wpAnyKL P md ops S n L f (listed.setIfInBounds i true) (a.put oi.dst v)->wpAnyKL P md ops S n L (f+1) listed a:=by
 intro f
 induction f with
 | zero =>
   intro listed a inv _ hr hy H
   have hun:=(mem_ready.1 hr).1
   refine ⟨fun h=>(by rw [h] at hr;cases hr),fun j hj=>?_⟩
   have hjn:j<n:=by
    rcases Nat.lt_or_ge j n with h | h
    . exact h
    . exact absurd hj (tail_waits hs hc hn inv _ i rfl hin hun j h)
   refine ⟨hjn,?_⟩
   by_cases hji:j=i
   . subst hji
     unfold kOp
     simp only [hi]
     exact ⟨v,hy,H⟩
   . have := hdone _ _ H j (ready_mono hj hji)
     omega
 | succ f ih =>
   intro listed a inv hfree hr hy H
   have hun:=(mem_ready.1 hr).1
   refine ⟨fun h=>(by rw [h] at hr;cases hr),fun j hj=>?_⟩
   have hjn:j<n:=by
    rcases Nat.lt_or_ge j n with h | h
    . exact h
    . exact absurd hj (tail_waits hs hc hn inv _ i rfl hin hun j h)
   refine ⟨hjn,?_⟩
   by_cases hji:j=i
   . subst hji
     unfold kOp
     simp only [hi]
     exact ⟨v,hy,H⟩
   . have h1 := (H.2 j (ready_mono hj hji)).2
     obtain ⟨hjun,oj,hoj,hall⟩:=mem_ready.1 hj
     have hnot:∀ e∈oj.after,Region.binds md e=true->e.on≠i:=fun e he hb heq=>by
      have h1:=hall e he hb
      rw [heq,getD_both hun] at h1
      cases h1
     have h2:=kOp_put hoj (hfree j oj hoj hji hjun hnot) (fun cs b=>hsel i oi cs b hi) (fun cs b=>hsel j oj cs b hoj) hy h1
     have hfree':∀ k ok,ops[k]?=some ok->k≠i->(listed.setIfInBounds j true).getD k true=false ->
      (∀ e∈ok.after,Region.binds md e=true->e.on≠i)->oi.apart ops ok=true:=fun k ok hk hki hun hno=>by
      refine hfree k ok hk hki ?_ hno
      by_cases hjk:j=k
      . subst hjk;exact hjun
      . rw [getD_set_ne true hjk] at hun;exact hun
     refine kOp_mono (fun a' h3=>ih (listed.setIfInBounds j true) a' (inv.set hj hjn) hfree' (ready_mono hr (Ne.symm hji)) h3.1 ?_) h2
     rw [Array.setIfInBounds_comm _ _ hji]
     exact h3.2
theorem wpAnyKL_lex {n g:Nat} {Lq:Act->Prop} (hsel:Region.noSelect ops=true) (hs:Region.sinkB md ops n=true) (hc:Region.chainB md ops n=true) (hn:n<ops.size) :
 ∀ (l:List Oper) (k:Nat) (listed:Array Bool) (a:Act),(∀ j,j<l.length->l[j]?=ops[k+j]?)->k+l.length=n->HeadInv md ops n listed ->
 Region.lexHead md ops g l.length k listed=true->wpKeep P ops S Lq l a ->
 wpAnyKL P md ops S n (fun listed' a'=>Region.seqB md ops g n listed'=true/\Lq a') l.length listed a
 | [],k,listed,a,_,hk,_,hB,h => by
   have:k=n:=by simpa using hk
   subst this
   exact ⟨by simpa [Region.lexHead] using hB,h⟩
 | o :: l,k,listed,a,hl,hk,inv,hB,h => by
   have h0:ops[k]?=some o:=by simpa using (hl 0 (by simp)).symm
   simp only [List.length_cons,Region.lexHead,Bool.and_eq_true] at hB
   obtain ⟨⟨hr,hf⟩,hB'⟩:=hB
   have hkn:k<n:=by simp only [List.length_cons] at hk;omega
   have hr':k∈Region.ready md ops listed:=by simpa using hr
   obtain ⟨v,hy,hK⟩:=h
   exact wpAnyKL_first h0 (Region.noSelect_spec hsel) hs hc hn hkn (fun listed' a' hL=>seqB_ready hL.1) l.length listed a inv (Region.free_spec h0 hf) hr' hy
    (wpAnyKL_lex hsel hs hc hn l (k+1) _ _ (fun j hj=>by have:=hl (j+1) (by simp;omega);simpa [Nat.add_assoc,Nat.add_comm 1 j] using this) (by simp only [List.length_cons] at hk;omega) (inv.set hr' hkn) hB' hK)
theorem qaN {id:Nat} {Q:Exit->Act->World->Prop} {a:Act} {w:World} {l:List Oper} (n:Nat) (S:World->Prop) (hm:P.follows .mixedOrders=true) (hB:Region.lexTailB .any l.toArray n=true)
 (hS:S w.drew) (h:wpKeep P l.toArray S (fun a'=>∀ w',S w'->wpList P l.toArray Q (l.drop n) a' w') (l.take n) a):(Code.region id l.toArray true).wp P Q a w:=by
 simp only [Region.lexTailB,Bool.and_eq_true,decide_eq_true_eq] at hB
 obtain ⟨⟨⟨⟨hsel,hn⟩,hs⟩,hc⟩,hlex⟩:=hB
 have hn':n<l.length:=by simpa using hn
 have htl:(l.take n).length=n:=by simp;omega
 have hdl:(l.drop n).length=l.toArray.size-n:=by simp
 have inv0:HeadInv .any l.toArray n (Array.replicate l.toArray.size false) :=
  ⟨by simp,fun j oj _ hl=>(by rw [getD_replicate_false] at hl;cases hl),fun t _ ht=>getD_in (by simpa using ht) (getD_replicate_false _ _)⟩
 have H:=wpAnyKL_lex (md:=.any) (S:=S) (g:=l.toArray.size-n) hsel hs hc hn (l.take n) 0 _ a (fun j hj=>by
  have hj':j<n:=by rw [htl] at hj;exact hj
  simp [hj']) (by simpa using htl) inv0 (by rw [htl];exact hlex) h
 refine wp_region_any hm ?_
 have:=qfI (Q':=Q) (g:=l.toArray.size-n) (fun listed a' w' hs' hL=>by
  have:=wpAny_of_seq (md:=.any) (Q':=Q) (l.drop n) n listed a' w' (fun j=>by simp [List.getElem?_drop]) (by rw [hdl];exact hL.1) (hL.2 w' hs')
  rwa [hdl] at this) _ _ a { w with drawn:=w.drawn+1 } hS H
 rw [htl,show n+(l.toArray.size-n)=l.toArray.size by omega] at this
 exact this
theorem qaJ {Q:Act->Prop} {a:Act} (h:Q a):wpKeep P ops S Q [] a:=h
theorem qaM {Q:Act->Prop} {a:Act} {o:Oper} {rest:List Oper} {v:Value} (hg:o.guard=none) (hr:∀ w,S w->(execOp a.eval o).run P w=.ok (.value v) w)
 (h:wpKeep P ops S Q rest (a.put o.dst v)):wpKeep P ops S Q (o :: rest) a :=
 ⟨v,.inl ⟨by simp [Region.wanted,hg],fun w hS=>by rw [hr w hS];exact ⟨rfl,hS⟩⟩,h⟩
theorem qaV {Q:Act->Prop} {a:Act} {o:Oper} {rest:List Oper} {v:Value} {f:FuncId} {args:Array Value} (hg:o.guard=none) (hr:∀ w,S w->(execOp a.eval o).run P w=.ok (.enter f args) w)
 (hc:∀ w,S w->Calls P f args w fun e w'=>e=.returned v/\S w') (h:wpKeep P ops S Q rest (a.put o.dst v)):wpKeep P ops S Q (o :: rest) a :=
 ⟨v,.inl ⟨by simp [Region.wanted,hg],fun w hS=>by rw [hr w hS];exact hc w hS⟩,h⟩
theorem qcB {Q:Act->Prop} {a:Act} {o:Oper} {rest:List Oper} {v:Value} (hg:Region.wanted o (yielded ops a.tmps)=true) (hr:∀ w,S w->(execOp a.eval o).run P w=.ok (.value v) w)
 (h:wpKeep P ops S Q rest (a.put o.dst v)):wpKeep P ops S Q (o :: rest) a :=
 ⟨v,.inl ⟨hg,fun w hS=>by rw [hr w hS];exact ⟨rfl,hS⟩⟩,h⟩
theorem keep_gcall {Q:Act->Prop} {a:Act} {o:Oper} {rest:List Oper} {v:Value} {f:FuncId} {args:Array Value} (hg:Region.wanted o (yielded ops a.tmps)=true) (hr:∀ w,S w->(execOp a.eval o).run P w=.ok (.enter f args) w)
 (hc:∀ w,S w->Calls P f args w fun e w'=>e=.returned v/\S w') (h:wpKeep P ops S Q rest (a.put o.dst v)):wpKeep P ops S Q (o :: rest) a :=
 ⟨v,.inl ⟨hg,fun w hS=>by rw [hr w hS];exact hc w hS⟩,h⟩
theorem qcJ {Q:Act->Prop} {a:Act} {o:Oper} {rest:List Oper} (hg:Region.wanted o (yielded ops a.tmps)=false)
 (h:wpKeep P ops S Q rest (a.put o.dst undef)):wpKeep P ops S Q (o :: rest) a :=
 ⟨undef,.inr ⟨hg,rfl⟩,h⟩
end
end Go.Proofs.YtlmglaonldlanaaGreat
namespace Go.Proofs.YtlmglaonldlanaaGreat
open Go.RowKit
def orderM (p m:Int):Int:=if p<2\/256<p\/m<1\/8<m then 0 else if 256<p.toNat ^ m.toNat then 0 else ((p.toNat ^ m.toNat:Nat):Int)
theorem qcE {p m:Int} (h:p<2\/256<p\/m<1\/8<m):orderM p m=0:=by unfold orderM;rw [if_pos h]
theorem qdD {p m:Nat} (hp:2<=p) (hp2:p<=256) (hm:1<=m) (hm2:m<=8):orderM p m=if 256<p ^ m then 0 else ((p ^ m:Nat):Int):=by
 unfold orderM
 rw [if_neg (by omega)]
 rfl
theorem qcO {p k m:Nat} (hp:2<=p) (h:k<=m):p ^ k<=p ^ m:=Nat.pow_le_pow_right (by omega) h
set_option maxHeartbeats 1000000 in
theorem qdU (p m:Int) (w:World):Calls Tryz.prog 96 #[.int .i64 p,.int .i64 m] w fun e w'=>e=.returned (.int .i64 (orderM p m))/\w=w':=by
 by_cases h1:p<2
 . have HZ := Lib.hid (qcE (p := p) (m := m) (.inl h1))
   go_enter Tryz.func96,Tryz.ntmps96
   go_wp2_with fail
   go_ret
   exact ⟨qaD HZ.out.symm,rfl⟩
 . by_cases h2 : 256 < p
   . have HZ := Lib.hid (qcE (p := p) (m := m) (.inr (.inl h2)))
     go_enter Tryz.func96,Tryz.ntmps96
     go_wp2_with fail
     go_ret
     exact ⟨qaD HZ.out.symm,rfl⟩
   . by_cases h3 : m < 1
     . have HZ := Lib.hid (qcE (p := p) (m := m) (.inr (.inr (.inl h3))))
       go_enter Tryz.func96,Tryz.ntmps96
       go_wp2_with fail
       go_ret
       exact ⟨qaD HZ.out.symm,rfl⟩
     . by_cases h4 : 8 < m
       . have HZ := Lib.hid (qcE (p := p) (m := m) (.inr (.inr (.inr h4))))
         go_enter Tryz.func96,Tryz.ntmps96
         go_wp2_with fail
         go_ret
         exact ⟨qaD HZ.out.symm,rfl⟩
       . obtain ⟨p,rfl⟩ := Int.eq_ofNat_of_zero_le (by omega : 0 <= p)
         obtain ⟨m,rfl⟩:=Int.eq_ofNat_of_zero_le (by omega:0<=m)
         have hp:2<=p:=by omega
         have hp2:p<=256:=by omega
         have hm:1<=m:=by omega
         have hm2:m<=8:=by omega
         have HM:=Lib.hid (qdD hp hp2 hm hm2)
         go_enter Tryz.func96,Tryz.ntmps96
         go_wp2_with fail
         go_loop [5,21] (fun a i=>∃ k:Nat,k<=m/\p ^ k<=256/\i=.int .i64 k/\a=.int .i64 ((p ^ k:Nat):Int)) (fun _ i=>m-(intOf i).toNat)
         case atStart=>exact ⟨0,by omega,by simp,rfl,by simp⟩
         case round =>
          obtain ⟨k,hk,hq,rfl,rfl⟩:=hrel
          by_cases hlt:k<m
          . have HS : Hid (p ^ (k + 1) = p ^ k * p) := Nat.pow_succ _ _
            have HL:=Lib.hid (qcO hp (show k+1<=m by omega))
            generalize p ^ k=q at *
            have hb:(q:Int)*(p:Int)<=65536:=by
             have:q*p<=256*256:=Nat.mul_le_mul hq hp2
             have h2:((q*p:Nat):Int)=(q:Int)*(p:Int):=Int.natCast_mul _ _
             omega
            have hb0:0<=(q:Int)*(p:Int):=Int.mul_nonneg (by omega) (by omega)
            by_cases hc:256<(q:Int)*(p:Int)
            . go_wp2_with fail
              go_ret
              refine ⟨qaD ?_,rfl⟩
              rw [HM.out,if_pos]
              have h1:=HL.out
              rw [HS.out] at h1
              have h2:((q*p:Nat):Int)=(q:Int)*(p:Int):=Int.natCast_mul _ _
              omega
            . go_wp2_with fail
              go_round
              case rel=>exact ⟨k+1,by omega,by rw [HS.out];have h2:((q*p:Nat):Int)=(q:Int)*(p:Int):=Int.natCast_mul _ _;omega,by go_num,by rw [HS.out,Int.natCast_mul]⟩
              case measure=>simp [intOf];omega
          . obtain rfl : k = m := by omega
            generalize hqq:p ^ k=q at *
            clear hqq
            go_wp2_with fail
            go_ret
            exact ⟨qaD (by rw [HM.out,if_neg (by omega)]),rfl⟩
def primeP (n:Nat):Bool:=Nat.ble 2 n && Pln.primeB n
theorem primeP_iff (n:Nat):primeP n=true ↔ (2<=n/\∀ d,2<=d->d*d<=n->n % d≠0):=by
 unfold primeP Pln.primeB
 rw [Bool.and_eq_true,Nat.ble_eq,List.all_eq_true]
 constructor
 . rintro ⟨h1,h2⟩
   refine ⟨h1,fun d hd hdd hz=>?_⟩
   have hlt:d<n:=by
    have:2*d<=d*d:=Nat.mul_le_mul_right d hd
    omega
   have:=h2 d (List.mem_range.2 hlt)
   simp only [Bool.or_eq_true,Nat.blt_eq,bne_iff_ne,ne_eq] at this
   rcases this with h | h
   . omega
   . exact h hz
 . rintro ⟨h1,h2⟩
   refine ⟨h1,fun d hd=>?_⟩
   have hlt:=List.mem_range.1 hd
   simp only [Bool.or_eq_true,Nat.blt_eq,bne_iff_ne,ne_eq]
   by_cases h3:d<2
   . exact .inl h3
   . refine .inr fun hz => ?_
     by_cases h4:d*d<=n
     . exact h2 d (by omega) h4 hz
     . have e : n = d * (n / d) := by have := Nat.div_add_mod n d;omega
       generalize n / d=t at e
       have ht:t<d:=by
        refine Nat.lt_of_not_le fun hge=>?_
        have:=Nat.mul_le_mul_left d hge
        omega
       have ht2:2<=t:=by
        rcases t with _ | _ | t
        . omega
        . omega
        . omega
       have h5:t*t<=n:=by rw [e];exact Nat.mul_le_mul_right t (by omega)
       exact h2 t ht2 h5 (by rw [e];exact Nat.mul_mod_left d t)
theorem primeP_false {n:Nat} (h:¬ (2<=n/\∀ d,2<=d->d*d<=n->n % d≠0)):primeP n=false:=by
 rw [<- Bool.not_eq_true,primeP_iff]
 exact h
set_option maxHeartbeats 1000000 in
theorem isPrime_c (n:Nat) (hn:n<=256) (w:World):Calls Tryz.prog 153 #[.int .i64 n] w fun e w'=>e=.returned (.bool (primeP n))/\w=w':=by
 go_enter Tryz.func153,Tryz.ntmps153
 go_wp2_with fail
 go_loop [3] (fun i=>∃ d:Nat,2<=d/\d<=257/\i=.int .i64 d/\∀ e,2<=e->e<d->e*e<=n->n % e≠0) (fun i=>300-(intOf i).toNat)
 case atStart=>exact ⟨2,by omega,by omega,rfl,fun e h1 h2=>by omega⟩
 case round =>
  obtain ⟨d,hd,hd2,rfl,hno⟩:=hrel
  have HNO:=Lib.hid hno
  clear hno
  have hb:(d:Int)*(d:Int)<=66049:=by
   have:d*d<=257*257:=Nat.mul_le_mul hd2 hd2
   have h2:((d*d:Nat):Int)=(d:Int)*(d:Int):=Int.natCast_mul _ _
   omega
  have hb0:0<=(d:Int)*(d:Int):=Int.mul_nonneg (by omega) (by omega)
  have hself:d<=d*d:=Nat.le_mul_of_pos_left d (by omega)
  have hcast:((d*d:Nat):Int)=(d:Int)*(d:Int):=Int.natCast_mul _ _
  have HC:=Lib.hid hcast
  clear hcast
  by_cases hc:(d:Int)*(d:Int)<=(n:Int)
  . have hdn : d * d <= n := by have := HC.out;omega
    by_cases hz:(n:Int) % (d:Int)=0
    . have HZ := Lib.hid hz
      have hzb:((n:Int) % (d:Int)==0)=true:=by rw [hz];rfl
      clear hz
      go_wp2_with fail
      go_ret
      refine ⟨qaO ?_,rfl⟩
      refine (primeP_false ?_).symm
      rintro ⟨_,h⟩
      exact h d hd hdn (by have:=HZ.out;omega)
    . have HZ := Lib.hid hz
      have hzb:((n:Int) % (d:Int)==0)=false:=by simpa using hz
      clear hz
      go_wp2_with fail
      go_round
      case rel=>exact ⟨d+1,by omega,by omega,by go_num,fun e h1 h2 h3=>by
       by_cases he:e=d
       . subst he
         have:=HZ.out
         omega
       . exact HNO.out e h1 (by omega) h3⟩
      case measure=>simp [intOf];omega
  . by_cases h2 : 2 <= n
    . go_wp2_with fail
      go_ret
      refine ⟨qaO ?_,rfl⟩
      refine Eq.trans ?_ ((primeP_iff n).2 ⟨h2,fun e h3 h4=>?_⟩).symm
      . simp;omega
      . have hcs := HC.out
        refine HNO.out e h3 ?_ h4
        refine Nat.lt_of_not_le fun hge=>?_
        have:d*d<=e*e:=Nat.mul_le_mul hge hge
        omega
    . go_wp2_with fail
      go_ret
      refine ⟨qaO ?_,rfl⟩
      refine Eq.trans ?_ (primeP_false (fun h3=>absurd h3.1 h2)).symm
      simp;omega
end Go.Proofs.YtlmglaonldlanaaGreat
namespace Go.Proofs.YtlmglaonldlanaaGreat
open Go.RowKit
def nz (l:List Nat):List Int:=l.map fun x:Nat=>(x:Int)
theorem qaB (l:List Nat):(nz l).length=l.length:=by simp [nz]
theorem qaF (l:List Nat) (j:Nat):(nz l).getD j 0=((l.getD j 0:Nat):Int):=by
 unfold nz
 simp only [List.getD,List.getElem?_map]
 cases l[j]? <;> simp
theorem qbX (l:List Nat) (j x:Nat):(nz l).set j (x:Int)=nz (l.set j x):=by simp [nz,List.map_set]
theorem nz_take (l:List Nat) (j:Nat):(nz l).take j=nz (l.take j):=by simp [nz,List.map_take]
theorem infoInt:(Tryz.prog.info? 3).map (fun i=>(i.zero,i.size,i.bytes))=some (some (.int .i64 0),1,8):=by kernel_rfl
theorem qaG {P:Program} {t:TypeId} {z:Option Value} {s b:Nat} (h:(P.info? t).map (fun i=>(i.zero,i.size,i.bytes))=some (z,s,b)):∃ i,P.info? t=some i/\i.zero=z/\i.size=s/\i.bytes=b:=by
 obtain ⟨i,hi,he⟩:=Option.map_eq_some_iff.1 h
 simp only [Prod.mk.injEq] at he
 exact ⟨i,hi,he.1,he.2.1,he.2.2⟩
theorem qaL {w w':World} (h:w.grownBy w' none):Below w.heap.size w w':=⟨h.os,h.tape,h.output,h.size,fun k hk=>h.block k hk (by simp)⟩
def Row (w:World) (B g c:Nat) (zs:List Int):Prop:=w.ownsRow B 3 1 (.slice (some ⟨g,0,none⟩) zs.length c) zs.length (zs.map (Value.int .i64))
section
variable {w w':World} {B g c:Nat} {zs:List Int}
theorem Row.cell (h:Row w B g c zs) {j:Nat} (hj:j<zs.length):w.cell? ⟨g,j,none⟩=some (.int .i64 (zs.getD j 0)):=by
 rw [World.ownsRow.cellAt h j (by omega)]
 simp [List.getD,hj]
theorem Row.frozen (h:Row w B g c zs) (j:Nat):w.frozen? ⟨g,j,none⟩=false:=World.ownsRow.frozenAt h j
theorem Row.lt (h:Row w B g c zs):B<=g/\g<w.heap.size:=World.ownsRow.lt h g rfl
theorem Row.set (h:Row w B g c zs) (j:Nat) (x:Int):Row (w.setCell ⟨g,j,none⟩ (.int .i64 x)) B g c (zs.set j x):=by
 have:=(World.ownsRow.stored h j (.int .i64 x)).1
 unfold Row
 rw [List.length_set,List.map_set]
 exact this
theorem Row.grown {row:Option Nat} (h:Row w B g c zs) (hg:w.grownBy w' row) (hne:some g≠row):Row w' B g c zs:=World.ownsRow.kept h hg (.inr hne)
theorem Row.below (h:Row w B g c zs) {B':Nat} (hb:Below B' w w') (hg:g<B'):Row w' B g c zs:=by
 refine ⟨h.1,?_⟩
 rcases h.2 with ⟨h1,_⟩ | ⟨g',cap,cur,hv,hB,hh,r⟩
 . cases h1
 . have : g' = g := by
    simp only [Value.slice.injEq,Option.some.injEq,Addr.mk.injEq,and_true,true_and] at hv
    exact hv.1.symm
   exact .inr ⟨g',cap,cur,hv,hB,(hb.block g' (by omega)).trans hh,r⟩
theorem Row.far (h:Row w B g c zs) {p:Addr} (hp:g≠p.block) (u:Value):Row (w.setCell p u) B g c zs:=by
 refine ⟨h.1,?_⟩
 rcases h.2 with ⟨h1,_⟩ | ⟨g',cap,cur,hv,hB,hh,r⟩
 . cases h1
 . have : g' = g := by
    simp only [Value.slice.injEq,Option.some.injEq,Addr.mk.injEq,and_true,true_and] at hv
    exact hv.1.symm
   exact .inr ⟨g',cap,cur,hv,hB,(Below.heap_setCell w p u g' (by omega)).trans hh,r⟩
theorem Row.alloc (h:Row w B g c zs) (o:Obj):Row (w.alloc o) B g c zs:=World.ownsRow.alloc h o
theorem Row.base {B':Nat} (h:Row w B g c zs) (hB:B'<=g):Row w B' g c zs:=by
 refine ⟨h.1,?_⟩
 rcases h.2 with ⟨h1,_⟩ | ⟨g',cap,cur,hv,hb,hh,r⟩
 . cases h1
 . have : g' = g := by
    simp only [Value.slice.injEq,Option.some.injEq,Addr.mk.injEq,and_true,true_and] at hv
    exact hv.1.symm
   exact .inr ⟨g',cap,cur,hv,by omega,hh,r⟩
theorem Row.cur (h:Row w B g c zs):∃ cur:List Value,w.heap[g]?=some (.cells cur.toArray 3 (0,0))/\zs.length<=cur.length/\cur.take zs.length=zs.map (Value.int .i64) /\
 ∀ (w':World) (cur':List Value) (zs':List Int),w'.heap[g]?=some (.cells cur'.toArray 3 (0,0))->cur'.length=cur.length->zs'.length=zs.length->cur'.take zs.length=zs'.map (Value.int .i64)->Row w' B g c zs':=by
 rcases h.2 with ⟨h1,_⟩ | ⟨g',cap,cur,hv,hB,hh,h1,h2,h3,h4⟩
 . cases h1
 . have hv' := hv
   simp only [Value.slice.injEq,Option.some.injEq,Addr.mk.injEq,and_true,true_and] at hv'
   obtain ⟨rfl,rfl⟩:=hv'
   refine ⟨cur.toList,by simpa using hh,by simp;omega,by simpa using h4,fun w' cur' zs' e1 e2 e3 e4=>⟨by simp [e3],.inr ⟨g,c,cur'.toArray,by rw [e3],hB,e1,by omega,h2,by simp [e2];omega,?_⟩⟩⟩
   rw [e3]
   simpa using e4
theorem Row.of_make {n:Nat} (h:w.ownsRow B 3 1 (.slice (some ⟨g,0,none⟩) n c) n (madeCells (Value.int .i64 0).cells (n*1)).toList):Row w B g c (nz (List.replicate n 0)):=by
 unfold Row
 have e:(madeCells (Value.int .i64 0).cells (n*1)).toList=(nz (List.replicate n 0)).map (Value.int .i64):=by
  apply List.ext_getElem
  . simp [madeCells,nz]
  . intro i h1 h2
    simp [madeCells,nz,Value.cells,Nat.mod_one]
 rw [qaB,List.length_replicate,<- e]
 exact h
end
def IntsAt (w:World) (B:Nat) (A:Option Addr) (zs:List Int):Prop :=
 0<zs.length->∃ b o,A=some ⟨b,o,none⟩/\b<B/\∀ j,j<zs.length->w.cell? ⟨b,o+j,none⟩=some (.int .i64 (zs.getD j 0))
theorem IntsAt.keep {w w':World} {B:Nat} {A:Option Addr} {zs:List Int} (h:IntsAt w B A zs) (hb:Below B w w'):IntsAt w' B A zs:=fun hz=>by
 obtain ⟨b,o,e,hlt,hc⟩:=h hz
 exact ⟨b,o,e,hlt,fun j hj=>(hb.cell (p:=⟨b,o+j,none⟩) hlt).trans (hc j hj)⟩
theorem IntsAt.more {w:World} {B B':Nat} {A:Option Addr} {zs:List Int} (h:IntsAt w B A zs) (hB:B<=B'):IntsAt w B' A zs:=fun hz=>by
 obtain ⟨b,o,e,hlt,hc⟩:=h hz
 exact ⟨b,o,e,by omega,hc⟩
theorem IntsAt.grow {w w':World} {B:Nat} {A:Option Addr} {zs:List Int} (h:IntsAt w B A zs) (hB:B<=w.heap.size) (hb:Below w.heap.size w w'):IntsAt w' B A zs:=h.keep (hb.mono hB)
theorem IntsAt.at_ {w:World} {B:Nat} {A:Option Addr} {zs:List Int} (h:IntsAt w B A zs) {k:Nat} (hk:k<zs.length):∃ b o,A=some ⟨b,o,none⟩/\b<B/\w.cell? ⟨b,o+k,none⟩=some (.int .i64 (zs.getD k 0)):=by
 obtain ⟨b,o,e,hlt,hc⟩:=h (by omega)
 exact ⟨b,o,e,hlt,hc k hk⟩
theorem Row.ints {w:World} {B g c B':Nat} {zs:List Int} (h:Row w B g c zs) (hB:g<B'):IntsAt w B' (some ⟨g,0,none⟩) zs:=fun _ =>
 ⟨g,0,rfl,hB,fun j hj=>by rw [Nat.zero_add];exact h.cell hj⟩
end Go.Proofs.YtlmglaonldlanaaGreat
namespace Go.Proofs.YtlmglaonldlanaaGreat
open Go.RowKit Pln
theorem digs_snoc (p:Nat):∀ k x,digs p (k+1) x=digs p k x++[x / p ^ k % p]
 | 0,x=>by simp [digs]
 | k + 1,x => by
   have:=digs_snoc p k (x / p)
   rw [digs,this]
   simp only [digs,List.cons_append]
   rw [Nat.div_div_eq_div_mul,Nat.pow_succ,Nat.mul_comm p]
def dgK (p m x k:Nat):List Nat:=digs p k x++List.replicate (m-k) 0
theorem dgK_set (p m x k:Nat) (hk:k<m):(dgK p m x k).set k (x / p ^ k % p)=dgK p m x (k+1):=by
 unfold dgK
 rw [digs_snoc]
 rw [List.set_append_right _ _ (by rw [qaK];exact Nat.le_refl _),qaK,Nat.sub_self,show m-k=(m-(k+1))+1 by omega,List.replicate_succ]
 simp
theorem dgK_len (p m x k:Nat) (hk:k<=m):(dgK p m x k).length=m:=by simp [dgK,qaK];omega
def RelDig (w:World) (p m x:Nat) (v0 v13:Value) (wr:World):Prop :=
 ∃ k,k<=m/\v0=.int .i64 ((x / p ^ k:Nat):Int)/\v13=.int .i64 k/\Row wr w.heap.size w.heap.size m (nz (dgK p m x k))/\Below w.heap.size w wr
set_option maxHeartbeats 1000000 in
theorem qdX (x p m:Nat) (w:World) (hx:x<=1000000000) (hp:1<=p) (hp2:p<=1000000000) (hm:m<=1000) :
 Calls Tryz.prog 199 #[.int .i64 x,.int .i64 p,.int .i64 m] w fun e w'=>e=.returned (.slice (some ⟨w.heap.size,0,none⟩) m m)/\Row w' w.heap.size w.heap.size m (nz (digs p m x))/\Below w.heap.size w w':=by
 obtain ⟨i0,hi,hz0,hz1,hz2⟩:=qaG infoInt
 have HI:=Lib.hid hi
 have HZ0:=Lib.hid hz0
 have HZ1:=Lib.hid hz1
 have HB2:=Lib.hid (show i0.bytes*m<=281474976710656 by rw [hz2];omega)
 have HB3:=Lib.hid (show m<=maxLen by unfold maxLen;omega)
 clear hi hz0 hz1 hz2
 go_enter Tryz.func199,Tryz.ntmps199
 go_wp2_with (refine wpList_make_full w rfl (.tmp 9) (.tmp 9) 23 rfl w.heap.size 3 i0 (.int .i64 0) 1 Tryz.underlying23 HI.out HZ0.out HZ1.out .i64 .i64 m m m rfl rfl rfl rfl HB2.out HB3.out (Nat.le_refl _) ?_;intro w1 hown hgr)
 have HR:=Lib.hid (Row.of_make hown)
 have HB:=Lib.hid (qaL hgr)
 clear hown hgr
 go_loopw [0,13] (fun v0 v13 wr=>RelDig w p m x v0 v13 wr) (fun _ v13 _=>m-(intOf v13).toNat)
 case atStart=>exact ⟨0,by omega,by simp,rfl,HR.out,HB.out⟩
 case round =>
  obtain ⟨k,hk,rfl,rfl,hrow,hb⟩:=hrel
  have HR2:=Lib.hid hrow
  have HB2':=Lib.hid hb
  have hf:=hrow.frozen k
  have HD:Hid (x / p ^ (k+1)=x / p ^ k / p):=by rw [Nat.pow_succ,<- Nat.div_div_eq_div_mul];rfl
  have hdx:x / p ^ k<=1000000000:=Nat.le_trans (Nat.div_le_self _ _) hx
  have HS:=Lib.hid (fun h=>dgK_set p m x k h)
  have HLEN:=Lib.hid (dgK_len p m x k hk)
  by_cases hlt:k<m
  . have hc := hrow.cell (j := k) (by rw [qaB,HLEN.out];exact hlt)
    clear hrow hb HR HB
    generalize x / p ^ k=y at *
    have hq0:0<=(y:Int) / (p:Int):=Int.ediv_nonneg (by omega) (by omega)
    have hq1:(y:Int) / (p:Int)<=(y:Int):=Int.ediv_le_self _ (by omega)
    go_wp2_with fail
    go_roundw
    case rel =>
     refine ⟨k+1,by omega,by rw [HD.out];go_num,by go_num,?_,(HB2'.out.setCell (Nat.le_refl _) _)⟩
     rw [<- HS.out hlt,<- qbX]
     exact HR2.out.set k _
    case measure=>simp [intOf];omega
  . obtain rfl : k = m := by omega
    clear hrow hb HR HB
    generalize x / p ^ k=y at *
    go_wp2_with fail
    go_ret
    refine ⟨rfl,?_,HB2'.out⟩
    have:=HR2.out
    unfold dgK at this
    rw [Nat.sub_self,List.replicate_zero,List.append_nil] at this
    exact this
theorem val_drop (p:Nat) (l:List Nat) (k:Nat) (hk:k<l.length):val p (l.drop k)=val p (l.drop (k+1))*p+l.getD k 0:=by
 rw [List.drop_eq_getElem_cons hk,val,Nat.mul_comm,Nat.add_comm]
 simp [List.getD,hk]
theorem val_drop_lt {p:Nat} (hp:0<p) {l:List Nat} (hl:∀ d∈l,d<p) (k:Nat):val p (l.drop k)<p ^ (l.length-k):=by
 have:=val_lt hp (l.drop k) (fun d hd=>hl d (List.mem_of_mem_drop hd))
 rwa [List.length_drop] at this
set_option maxHeartbeats 1000000 in
theorem valueOf_c (A:Option Addr) (l:List Nat) (c p:Nat) (w:World) (hA:IntsAt w w.heap.size A (nz l)) (hp:1<=p) (hl:∀ d∈l,d<p) (hq:p ^ l.length<=1000000000) (hp2:p<=1000000000) (hll:l.length<=1000) :
 Calls Tryz.prog 200 #[.slice A l.length c,.int .i64 p] w fun e w'=>e=.returned (.int .i64 ((val p l:Nat):Int))/\w=w':=by
 have HA:=Lib.hid hA
 have HL:=Lib.hid hl
 clear hA hl
 go_enter Tryz.func200,Tryz.ntmps200
 go_wp2_with fail
 go_loop [5,6] (fun v5 v6=>∃ k:Nat,k<=l.length/\v6=.int .i64 ((k:Int)-1)/\v5=.int .i64 ((val p (l.drop k):Nat):Int)) (fun _ v6=>(intOf v6+1).toNat)
 case atStart=>exact ⟨l.length,Nat.le_refl _,rfl,by simp [val]⟩
 case round =>
  obtain ⟨k,hk,rfl,rfl⟩:=hrel
  rcases k with _ | k
  . go_wp2_with fail
    go_ret
    exact ⟨qaD (by simp),rfl⟩
  . obtain ⟨b,o,rfl,hlt,hc⟩ := HA.out.at_ (k := k) (by rw [qaB];omega)
    rw [qaF] at hc
    have HV:=Lib.hid (val_drop p l k (by omega))
    have hv1:=val_drop_lt hp HL.out k
    have hv2:p ^ (l.length-k)<=p ^ l.length:=Nat.pow_le_pow_right hp (by omega)
    have hv3:val p (l.drop k)<=1000000000:=by omega
    have hv0:val p (l.drop (k+1))*p+l.getD k 0<=1000000000:=by rw [<- HV.out];exact hv3
    generalize val p (l.drop (k+1))=y at *
    generalize l.getD k 0=z at *
    have hm1:(y:Int)*(p:Int)+(z:Int)<=1000000000:=by
     have:((y*p+z:Nat):Int)=(y:Int)*(p:Int)+(z:Int):=by rw [Int.natCast_add,Int.natCast_mul]
     omega
    have hm0:0<=(y:Int)*(p:Int):=Int.mul_nonneg (by omega) (by omega)
    have hk1:((k+1:Nat):Int)-1=(k:Int):=by omega
    rw [hk1]
    clear hv1 hv2 hv3 hv0
    go_wp2_with fail
    go_round
    case rel=>exact ⟨k,by omega,rfl,by rw [HV.out,Int.natCast_add,Int.natCast_mul]⟩
    case measure=>simp [intOf]
theorem valueOf_n (A:Option Addr) (l:List Nat) (n c p:Nat) (w:World) (hA:IntsAt w w.heap.size A (nz l)) (hp:1<=p) (hl:Pln.Dig p n l) (hq:p ^ n<=1000000000) (hp2:p<=1000000000) (hll:n<=1000) :
 Calls Tryz.prog 200 #[.slice A n c,.int .i64 p] w fun e w'=>e=.returned (.int .i64 ((val p l:Nat):Int))/\w=w':=by
 obtain ⟨rfl,h2⟩:=hl
 exact valueOf_c A l c p w hA hp h2 hq hp2 hll
end Go.Proofs.YtlmglaonldlanaaGreat
