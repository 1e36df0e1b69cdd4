/- Parts of the proof. -/
import Derived.Deep.MidRow
import Derived.OrdersIn
import Derived.RangeFuncSeq
import Derived.Test.YtndipkplnkfoeaaGreatR05
set_option maxRecDepth 100000
set_option maxHeartbeats 8000000
namespace Go.Proofs.YtndipkplnkfoeaaGreat
section
variable {P:Program} {ops:Array Oper} {md:Region.Mode} {S:World->Prop} {Q:Exit->Act->World->Prop} {n g:Nat}
def wpAnyHL(P:Program)(md:Region.Mode)(ops:Array Oper)(Q:Exit->Act->World->Prop)(S:World->Prop)(n:Nat)(L:Array Bool->Act->World->Prop):Nat->Array Bool->Act->World->Prop
 |0,listed,a,w=>L listed a w
 |f + 1,listed,a,w=>
   Region.ready md ops listed≠[]/\∀i∈Region.ready md ops listed,i<n/\wpOp P ops Q i (fun a' w'=>S w'/\wpAnyHL P md ops Q S n L f (listed.setIfInBounds i true) a' w') a w
theorem wpAny_of_HL{L:Array Bool->Act->World->Prop}(b:∀ listed a w,L listed a w->wpAny P md ops Q g listed a w):
 ∀(f:Nat)(listed:Array Bool)(a:Act)(w:World),wpAnyHL P md ops Q S n L f listed a w->wpAny P md ops Q (f+g) listed a w
 |0,listed,a,w,h=>by rw[Nat.zero_add];exact b _ _ _ h
 |f + 1,listed,a,w,h=>by
   rw[show f+1+g=(f+g)+1 by omega]
   exact⟨fun h0=>absurd h0 h.1,fun i hi=>wpOp_mono (fun a' w' h'=>wpAny_of_HL b f _ a' w' h'.2) (h.2 i hi).2⟩
theorem wpAnyHL_first{i:Nat}{E:Oper}{v:Value}{L:Array Bool->Act->World->Prop}(J:ops[i]?=some E)(C:∀ (j:Nat) (o:Oper) cs b,ops[j]?=some o->o.op≠.select cs b)(N:Region.sinkB md ops n=true)(K:Region.chainB md ops n=true)(M:n<ops.size)(I:i<n)(D:∀ listed a w,L listed a w->∀ j∈Region.ready md ops listed,n<=j)(O:∀ c a w,Q (.panic c) (a.put E.dst v) w->Q (.panic c) a w):
 ∀(f:Nat)(listed:Array Bool)(a:Act)(w:World),HeadInv md ops n listed->
  (∀j oj,ops[j]?=some oj->j≠i->listed.getD j true=false->(∀e∈oj.after,Region.binds md e=true->e.on≠i)->E.apart ops oj=true)->
  i∈Region.ready md ops listed->YieldsIf P ops S E v a->S w->
  wpAnyHL P md ops Q S n L f (listed.setIfInBounds i true) (a.put E.dst v) w->wpAnyHL P md ops Q S n L (f+1) listed a w:=by
 intro f;induction f with
 |zero=>
  intro listed a w inv _ r A t H;have g:=(mem_ready.1 r).1;refine⟨fun h=>(by rw[h] at r;cases r),fun j hj=>?_⟩;have p:j<n:=by
   rcases Nat.lt_or_ge j n with h|h
   . exact h
   . exact absurd hj (tail_waits N K M inv _ i rfl I g j h)
  refine⟨p,?_⟩;by_cases d:j=i
  . subst d;exact A.wpOp J t ⟨t,H⟩
  . have:=D _ _ _ H j (ready_mono hj d);omega
 | succ f ih =>
  intro listed a w inv l r A t H;have g:=(mem_ready.1 r).1;refine⟨fun h=>(by rw[h] at r;cases r),fun j hj=>?_⟩;have p:j<n:=by
   rcases Nat.lt_or_ge j n with h|h
   . exact h
   . exact absurd hj (tail_waits N K M inv _ i rfl I g j h)
  refine⟨p,?_⟩;by_cases d:j=i
  . subst d;exact A.wpOp J t ⟨t,H⟩
  . have z := (H.2 j (ready_mono hj d)).2;obtain ⟨q,oj,s,u⟩:=mem_ready.1 hj;(have y:∀ e∈oj.after,Region.binds md e=true->e.on≠i:=fun e he hb heq=>by have z:=u e he hb;rw [heq,getD_both g] at z;cases z);have B:=wpOp_putIf s (l j oj s d q y) (fun cs b=>C i E cs b J) (fun cs b=>C j oj cs b s) O A z
    have m:∀k ok,ops[k]?=some ok->k≠i->(listed.setIfInBounds j true).getD k true=false->
     (∀e∈ok.after,Region.binds md e=true->e.on≠i)->E.apart ops ok=true:=fun k ok hk hki g hno=>by
     refine l k ok hk hki ?_ hno
     by_cases x:j=k
     . subst x;exact q
     . rw[getD_set_ne true x] at g;exact g
    refine wpOp_mono (fun a' w' h3=>⟨h3.2.1,ih (listed.setIfInBounds j true) a' w' (inv.set hj p) m (ready_mono r (Ne.symm d)) h3.1 h3.2.1 ?_⟩) B;rw[Array.setIfInBounds_comm _ _ d];exact h3.2.2
theorem qaX{o:Oper}(b:o.guard=none)(t:Nat->Option Bool):Region.wanted o t=true:=by simp[Region.wanted,b]
def wpMix(P:Program)(S:World->Prop)(K:Act->World->Prop):List (Bool × Oper)->Act->World->Prop
 |[],a,w=>K a w
 |(true,o):: r,a,w=>∃v,(o.guard=none/\∀w,S w->(execOp a.eval o).run P w=.ok (.value v) w)/\wpMix P S K r (a.put o.dst v) w
 | (false,o) :: r,a,w => o.guard = none /\ ((∃ f args,(execOp a.eval o).run P w = .ok (.enter f args) w /\ Calls P f args w fun e w' => ∃ u,e = .returned u /\ S w' /\ wpMix P S K r (a.put o.dst u) w') \/
     (∃v w',(execOp a.eval o).run P w=.ok (.value v) w'/\S w'/\wpMix P S K r (a.put o.dst v) w'))
theorem qeJ{K:Act->World->Prop}{a:Act}{w:World}(h:K a w):wpMix P S K [] a w:=h
theorem qcH{K:Act->World->Prop}{o:Oper}{r:List (Bool × Oper)}{v:Value}{a:Act}{w:World}(b:o.guard=none)(c:∀w,S w->(execOp a.eval o).run P w=.ok (.value v) w)(h:wpMix P S K r (a.put o.dst v) w):wpMix P S K ((true,o):: r) a w:=⟨v,⟨b,c⟩,h⟩
theorem qcS{K:Act->World->Prop}{a:Act}{w:World}{o:Oper}{r:List (Bool × Oper)}(j:o.guard=none)(f:TypeId)(x:Operand)(l:o.op=.load f x)(b c:Nat)(p:a.eval x=.pointer (some (zA b c)))(cs:List Value)(d:TypeDesc)(i:∀w,S w->w.rangeAt b c cs)(m:P.underlying f=some d)(hd:d.isRow=true)(k:(P.info? f).map (·.size)=some cs.length)(h:wpMix P S K r (a.put o.dst (.agg cs.toArray)) w):wpMix P S K ((true,o):: r) a w:=by refine qcH j (fun W hW=>?_) h;unfold execOp;simp only[l,p,Instr.loadAt,Instr.sureAddr,Sem.run_bind,Sem.run_pure,Result.andThen_ok,run_loadVar_mid W b c f cs d (i W hW) m hd k]
theorem qcE{K:Act->World->Prop}{o:Oper}{r:List (Bool × Oper)}{f:FuncId}{args:Array Value}{a:Act}{w:World}(b:o.guard=none)(c:(execOp a.eval o).run P w=.ok (.enter f args) w)(h:Calls P f args w fun e w'=>∃u,e=.returned u/\S w'/\wpMix P S K r (a.put o.dst u) w'):wpMix P S K ((false,o):: r) a w:=⟨b,.inl ⟨f,args,c,h⟩⟩
theorem mix_step{K:Act->World->Prop}{o:Oper}{r:List (Bool × Oper)}{v:Value}{w':World}{a:Act}{w:World}(c:o.guard=none)(d:(execOp a.eval o).run P w=.ok (.value v) w')(b:S w')(h:wpMix P S K r (a.put o.dst v) w'):wpMix P S K ((false,o):: r) a w:=⟨c,.inr ⟨v,w',d,b,h⟩⟩
def Region.mixB(md:Region.Mode)(ops:Array Oper)(n g:Nat):List (Bool × Nat)->Array Bool->Bool
 |[],listed=>Region.seqB md ops g n listed
 |(true,k):: r,listed=>(Region.ready md ops listed).contains k && Region.free md ops listed k && decide (k<n) && Region.mixB md ops n g r (listed.setIfInBounds k true)
 |(false,k):: r,listed=>decide (Region.ready md ops listed=[k]) && decide (k<n) && Region.mixB md ops n g r (listed.setIfInBounds k true)
def Region.mixTailB(md:Region.Mode)(ops:Array Oper)(n:Nat)(ord:List (Bool × Nat)):Bool:=
 Region.noSelect ops && decide (n<ops.size) && Region.sinkB md ops n && Region.chainB md ops n && decide (ord.length=n) && Region.mixB md ops n (ops.size-n) ord (Array.replicate ops.size false)
theorem qdG{l:List Oper}{d:Oper}{M:Act->World->Prop}(H:ops=l.toArray)(E:Region.noSelect ops=true)(L:Region.sinkB md ops n=true)(K:Region.chainB md ops n=true)(I:n<ops.size)(J:∀ c (a:Act) (dst:Option Tmp) v w,Q (.panic c) (a.put dst v) w->Q (.panic c) a w):
 ∀(ord:List (Bool × Nat))(listed:Array Bool)(a:Act)(w:World),HeadInv md ops n listed->Region.mixB md ops n g ord listed=true->S w->wpMix P S M (ord.map fun x=>(x.1,l.getD x.2 d)) a w->
  wpAnyHL P md ops Q S n (fun listed' a' w'=>Region.seqB md ops g n listed'=true/\M a' w') ord.length listed a w
 |[],listed,a,w,_,hB,_,h=>⟨hB,h⟩
 | (true,k) :: r,listed,a,w,inv,hB,hS,h => by
   simp only[Region.mixB,Bool.and_eq_true,decide_eq_true_eq] at hB
   obtain⟨⟨⟨hr,hf⟩,hkn⟩,hB'⟩:=hB
   have s:k∈Region.ready md ops listed:=by simpa using hr
   obtain⟨v,⟨z,D⟩,C⟩:=h
   have t:ops[k]?=some (l.getD k d):=by
    have p:k<l.length:=by have:=I;rw[H] at this;simp at this;omega
    rw[H]
    simp[List.getD,p]
   exact wpAnyHL_first t (Region.noSelect_spec E) L K I hkn (fun listed' a' w' hL=>seqB_ready hL.1) (fun c a w=>J c a _ v w) r.length listed a w inv (Region.free_spec t hf) s (.inl ⟨qaX z _,D⟩) hS
    (qdG H E L K I J r _ _ _ (inv.set s hkn) hB' hS C)
 | (false,k) :: r,listed,a,w,inv,hB,hS,h => by
   simp only[Region.mixB,Bool.and_eq_true,decide_eq_true_eq] at hB
   obtain⟨⟨hr,hkn⟩,hB'⟩:=hB
   obtain⟨z,o⟩:=h
   have t:ops[k]?=some (l.getD k d):=by
    have p:k<l.length:=by have:=I;rw[H] at this;simp at this;omega
    rw[H]
    simp[List.getD,p]
   refine⟨fun h0=>(by rw[hr] at h0;cases h0),fun j hj=>?_⟩
   have q:=hj
   rw[hr] at hj
   have A:j=k:=by simpa using hj
   subst A
   refine⟨hkn,?_⟩
   unfold wpOp
   simp only[t]
   rw[if_pos (qaX z _)]
   refine .inl ?_
   unfold Oper.wp
   rcases o with⟨f,B,i,m⟩|⟨v,w',i,b,y⟩
   . rw [i]
     exact m.mono fun e w' ⟨u,he,b,y⟩=>by
      subst he
      exact⟨b,qdG H E L K I J r _ _ _ (inv.set q hkn) hB' b y⟩
   . rw[i]
     exact⟨b,qdG H E L K I J r _ _ _ (inv.set q hkn) hB' b y⟩
theorem qbM{z:Nat}{a:Act}{w:World}{l:List Oper}(n:Nat)(S:World->Prop)(q:List (Bool × Nat))(d:Oper)(y:P.follows .mixedOrders=true)(r:Region.mixTailB .any l.toArray n q=true)(s:∀c (a:Act) (dst:Option Tmp) v w,Q (.panic c) (a.put dst v) w->Q (.panic c) a w)(u:S w.drew)(h:wpMix P S (wpList P l.toArray Q (l.drop n)) (q.map fun x=>(x.1,l.getD x.2 d)) a w.drew):(Code.region z l.toArray true).wp P Q a w:=by
 simp only[Region.mixTailB,Bool.and_eq_true,decide_eq_true_eq] at r;obtain⟨⟨⟨⟨⟨f,o⟩,p⟩,m⟩,k⟩,b⟩:=r
 have i:HeadInv .any l.toArray n (Array.replicate l.toArray.size false):=
  ⟨U2,fun j oj _ hl=>(by rw[getD_replicate_false] at hl;cases hl),fun t _ ht=>getD_in (by simpa using ht) (getD_replicate_false _ _)⟩
 have H:=qdG (P:=P) (Q:=Q) (md:=.any) (g:=l.toArray.size-n) rfl f p m o s q _ a w.drew i b u h;refine wp_region_any y ?_
 have:=wpAny_of_HL (g:=l.toArray.size-n) (fun listed' a' w' hL=>by
  have:=wpAny_of_seq (P:=P) (md:=.any) (Q':=Q) (l.drop n) n listed' a' w' (fun j=>by simp[List.getElem?_drop]) (by simpa using hL.1) hL.2
  simpa using this) _ _ a w.drew H
 rw[k,show n+(l.toArray.size-n)=l.toArray.size by omega] at this;exact this
end
section
variable {P:Program} {ops:Array Oper} {md:Region.Mode} {S:World->Prop} {Q:Exit->Act->World->Prop} {n g s:Nat}
def wpAnyHF(P:Program)(md:Region.Mode)(ops:Array Oper)(Q:Exit->Act->World->Prop)(S:World->Prop)(n s:Nat)(L:Array Bool->Act->World->Prop):Nat->Array Bool->Act->World->Prop
 |0,listed,a,w=>L listed a w
 |f + 1,listed,a,w=>
   Region.ready md ops listed≠[]/\∀i∈Region.ready md ops listed,i<n/\wpOp P ops Q i (fun a' w'=>((listed.setIfInBounds i true).getD s false=false->S w')/\wpAnyHF P md ops Q S n s L f (listed.setIfInBounds i true) a' w') a w
theorem qeK{L:Array Bool->Act->World->Prop}(b:∀ listed a w,L listed a w->wpAny P md ops Q g listed a w):
 ∀(f:Nat)(listed:Array Bool)(a:Act)(w:World),wpAnyHF P md ops Q S n s L f listed a w->wpAny P md ops Q (f+g) listed a w
 |0,listed,a,w,h=>by rw[Nat.zero_add];exact b _ _ _ h
 |f + 1,listed,a,w,h=>by
   rw[show f+1+g=(f+g)+1 by omega]
   exact⟨fun h0=>absurd h0 h.1,fun i hi=>wpOp_mono (fun a' w' h'=>qeK b f _ a' w' h'.2) (h.2 i hi).2⟩
theorem qaQ{b:Array Bool}{i k:Nat}(h:i≠k):(b.setIfInBounds i true).getD k false=b.getD k false:=getD_set_ne false h
theorem qbR{i:Nat}{oi:Oper}{v:Value}{L:Array Bool->Act->World->Prop}(hi:ops[i]?=some oi)(X:∀ (j:Nat) (o:Oper) cs b,ops[j]?=some o->o.op≠.select cs b)(hs:Region.sinkB md ops n=true)(hc:Region.chainB md ops n=true)(hn:n<ops.size)(ab:i<n)(aa:i≠s)(Z:∀ listed a w,L listed a w->∀ j∈Region.ready md ops listed,n<=j)(hQ:∀ c a w,Q (.panic c) (a.put oi.dst v) w->Q (.panic c) a w)(T:World->Prop)(hT:(∀ w,T w)\/((∀ w,S w->T w)/\(Region.waitsFor md ops s i=true\/n<=s))):
 ∀(f:Nat)(listed:Array Bool)(a:Act)(w:World),HeadInv md ops n listed->
  (∀j oj,ops[j]?=some oj->j≠i->listed.getD j true=false->(∀e∈oj.after,Region.binds md e=true->e.on≠i)->oi.apart ops oj=true)->
  i∈Region.ready md ops listed->YieldsIf P ops T oi v a->T w->(listed.getD s false=false->S w)->
  wpAnyHF P md ops Q S n s L f (listed.setIfInBounds i true) (a.put oi.dst v) w->wpAnyHF P md ops Q S n s L (f+1) listed a w:=by
 intro f;induction f with
 |zero=>
  intro listed a w inv _ u M z N H;have g:=(mem_ready.1 u).1;refine⟨fun h=>(by rw[h] at u;cases u),fun j hj=>?_⟩;have m:j<n:=by
   rcases Nat.lt_or_ge j n with h|h
   . exact h
   . exact absurd hj (tail_waits hs hc hn inv _ i rfl ab g j h)
  refine⟨m,?_⟩;by_cases d:j=i
  . subst d;exact M.wpOp hi z ⟨fun h=>N (by rwa [qaQ aa] at h),H⟩
  . have:=Z _ _ _ H j (ready_mono hj d);omega
 | succ f ih =>
  intro listed a w inv l u M z N H;have g:=(mem_ready.1 u).1;refine⟨fun h=>(by rw[h] at u;cases u),fun j hj=>?_⟩;have m:j<n:=by
   rcases Nat.lt_or_ge j n with h|h
   . exact h
   . exact absurd hj (tail_waits hs hc hn inv _ i rfl ab g j h)
  refine⟨m,?_⟩;by_cases d:j=i
  . subst d;exact M.wpOp hi z ⟨fun h=>N (by rwa [qaQ aa] at h),H⟩
  . have K := (H.2 j (ready_mono hj d)).2;obtain ⟨r,oj,q,D⟩:=mem_ready.1 hj;(have t:∀ e∈oj.after,Region.binds md e=true->e.on≠i:=fun e I E heq=>by have K:=D e I E;rw [heq,getD_both g] at K;cases K);have V:=wpOp_putIf q (l j oj q d r t) (fun cs b=>X i oi cs b hi) (fun cs b=>X j oj cs b q) hQ M K
    have p:∀k ok,ops[k]?=some ok->k≠i->(listed.setIfInBounds j true).getD k true=false->
     (∀e∈ok.after,Region.binds md e=true->e.on≠i)->oi.apart ops ok=true:=fun k ok hk hki g hno=>by
     refine l k ok hk hki ?_ hno
     by_cases J:j=k
     . subst J;exact r
     . rw[getD_set_ne true J] at g;exact g
    (have A:((listed.setIfInBounds i true).setIfInBounds j true).getD s false=(listed.setIfInBounds j true).getD s false:=by rw [Array.setIfInBounds_comm _ _ (Ne.symm d),qaQ aa]);refine wpOp_mono (fun a' w' h3=>?_) V;have y:(listed.setIfInBounds j true).getD s false=false->S w':=fun h=>h3.2.1 (by rw [A];exact h);have O:T w':=by
     rcases hT with hT|⟨hT,hw⟩
     . exact hT w'
     . refine hT w' (y ?_);rcases hw with hw | hw;rotate_left
       . have x:=inv.set hj m;rcases Nat.lt_or_ge s ops.size with h|h
         . exact getD_both (x.tail s hw h)
         . (have W:(listed.setIfInBounds j true).size<=s:=by rw[x.size];exact h);simp[Array.getD_eq_getD_getElem?,Array.getElem?_eq_none W]
       (have R:j≠s:=fun e=>by subst e;obtain⟨U,C,e,I,E,B⟩:=Region.waitsFor_spec hw;have:U=oj:=Option.some.inj (C.symm.trans q);subst this;exact t e I E B);rw[qaQ R];cases hls:listed.getD s false with
       |false=>rfl
       |true=>obtain⟨U,C,e,I,E,B⟩:=Region.waitsFor_spec hw;have:=inv.closed s U C hls e I E;rw[B,getD_both g] at this;cases this
    refine⟨y,ih (listed.setIfInBounds j true) a' w' (inv.set hj m) p (ready_mono u (Ne.symm d)) h3.1 O y ?_⟩;rw[Array.setIfInBounds_comm _ _ d];exact h3.2.2
def wpMixF(P:Program)(S:World->Prop)(K:Act->World->Prop):List (Nat × Oper)->Act->World->Prop
 |[],a,w=>K a w
 |(0,o):: r,a,w=>∃v,(o.guard=none/\∀w,S w->(execOp a.eval o).run P w=.ok (.value v) w)/\wpMixF P S K r (a.put o.dst v) w
 |(1,o):: r,a,w=>∃v,(o.guard=none/\∀w,(execOp a.eval o).run P w=.ok (.value v) w)/\wpMixF P S K r (a.put o.dst v) w
 | (2,o) :: r,a,w => o.guard = none /\ ((∃ f args,(execOp a.eval o).run P w = .ok (.enter f args) w /\ Calls P f args w fun e w' => ∃ u,e = .returned u /\ S w' /\ wpMixF P S K r (a.put o.dst u) w') \/
     (∃v w',(execOp a.eval o).run P w=.ok (.value v) w'/\S w'/\wpMixF P S K r (a.put o.dst v) w'))
 |(_,o):: r,a,w=>o.guard=none/\∃w',(execOp a.eval o).run P w=.ok .skip w'/\wpMixF P S K r (a.put o.dst undef) w'
section
variable {K:Act->World->Prop} {o:Oper} {r:List (Nat × Oper)} {a:Act} {w:World}
theorem qbH(h:K a w):wpMixF P S K [] a w:=h
theorem qbF{v:Value}(b:o.guard=none)(c:∀w,S w->(execOp a.eval o).run P w=.ok (.value v) w)(h:wpMixF P S K r (a.put o.dst v) w):wpMixF P S K ((0,o):: r) a w:=⟨v,⟨b,c⟩,h⟩
theorem qaM{v:Value}(b:o.guard=none)(c:∀w,(execOp a.eval o).run P w=.ok (.value v) w)(h:wpMixF P S K r (a.put o.dst v) w):wpMixF P S K ((1,o):: r) a w:=⟨v,⟨b,c⟩,h⟩
theorem qaT(j:o.guard=none)(f:TypeId)(x:Operand)(l:o.op=.load f x)(b c:Nat)(p:a.eval x=.pointer (some (zA b c)))(cs:List Value)(d:TypeDesc)(i:∀w,S w->w.rangeAt b c cs)(m:P.underlying f=some d)(hd:d.isRow=true)(k:(P.info? f).map (·.size)=some cs.length)(h:wpMixF P S K r (a.put o.dst (.agg cs.toArray)) w):wpMixF P S K ((0,o):: r) a w:=by refine qbF j (fun W hW=>?_) h;unfold execOp;simp only[l,p,Instr.loadAt,Instr.sureAddr,Sem.run_bind,Sem.run_pure,Result.andThen_ok,run_loadVar_mid W b c f cs d (i W hW) m hd k]
theorem qbE{f:FuncId}{args:Array Value}(b:o.guard=none)(c:(execOp a.eval o).run P w=.ok (.enter f args) w)(h:Calls P f args w fun e w'=>∃u,e=.returned u/\S w'/\wpMixF P S K r (a.put o.dst u) w'):wpMixF P S K ((2,o):: r) a w:=⟨b,.inl ⟨f,args,c,h⟩⟩
theorem qdM{v:Value}{w':World}(c:o.guard=none)(d:(execOp a.eval o).run P w=.ok (.value v) w')(b:S w')(h:wpMixF P S K r (a.put o.dst v) w'):wpMixF P S K ((2,o):: r) a w:=⟨c,.inr ⟨v,w',d,b,h⟩⟩
theorem mixf_store{w':World}(b:o.guard=none)(c:(execOp a.eval o).run P w=.ok .skip w')(h:wpMixF P S K r (a.put o.dst undef) w'):wpMixF P S K ((3,o):: r) a w:=⟨b,w',c,h⟩
end
def Region.mixFB(md:Region.Mode)(ops:Array Oper)(n g s:Nat):List (Nat × Nat)->Array Bool->Bool
 |[],listed=>Region.seqB md ops g n listed
 |(0,k):: r,listed=>(Region.ready md ops listed).contains k && Region.free md ops listed k && decide (k<n) && decide (k≠s) && (Region.waitsFor md ops s k || decide (n<=s)) && !(listed.getD s false) && Region.mixFB md ops n g s r (listed.setIfInBounds k true)
 |(1,k):: r,listed=>(Region.ready md ops listed).contains k && Region.free md ops listed k && decide (k<n) && decide (k≠s) && Region.mixFB md ops n g s r (listed.setIfInBounds k true)
 |(2,k):: r,listed=>decide (Region.ready md ops listed=[k]) && decide (k<n) && Region.mixFB md ops n g s r (listed.setIfInBounds k true)
 |(_,k):: r,listed=>decide (Region.ready md ops listed=[k]) && decide (k<n) && decide (k=s) && (listed.setIfInBounds k true).getD s false && Region.mixFB md ops n g s r (listed.setIfInBounds k true)
def Region.mixFTailB(md:Region.Mode)(ops:Array Oper)(n s:Nat)(ord:List (Nat × Nat)):Bool:=
 Region.noSelect ops && decide (n<ops.size) && Region.sinkB md ops n && Region.chainB md ops n && decide (ord.length=n) && Region.mixFB md ops n (ops.size-n) s ord (Array.replicate ops.size false)
theorem qcV{l:List Oper}{d:Oper}{k:Nat}(c:ops=l.toArray)(h:k<n)(f:n<ops.size):ops[k]?=some (l.getD k d):=by
 have b:k<l.length:=by rw[c] at f;simp at f;omega
 rw[c];simp[List.getD,b]
theorem qbP{l:List Oper}{d:Oper}{T:Act->World->Prop}(M:ops=l.toArray)(J:Region.noSelect ops=true)(R:Region.sinkB md ops n=true)(O:Region.chainB md ops n=true)(L:n<ops.size)(N:∀ c (a:Act) (dst:Option Tmp) v w,Q (.panic c) (a.put dst v) w->Q (.panic c) a w):
 ∀(ord:List (Nat × Nat))(listed:Array Bool)(a:Act)(w:World),HeadInv md ops n listed->Region.mixFB md ops n g s ord listed=true->(listed.getD s false=false->S w)->wpMixF P S T (ord.map fun x=>(x.1,l.getD x.2 d)) a w->
  wpAnyHF P md ops Q S n s (fun listed' a' w'=>Region.seqB md ops g n listed'=true/\T a' w') ord.length listed a w
 |[],listed,a,w,_,hB,_,h=>⟨hB,h⟩
 | (0,k) :: r,listed,a,w,inv,hB,hS,h => by
   simp only[Region.mixFB,Bool.and_eq_true,Bool.or_eq_true,decide_eq_true_eq,Bool.not_eq_true'] at hB
   obtain⟨⟨⟨⟨⟨⟨hr,hf⟩,hkn⟩,hks⟩,hw⟩,hls⟩,hB'⟩:=hB
   have m:k∈Region.ready md ops listed:=by simpa using hr
   obtain⟨v,⟨z,H⟩,D⟩:=h
   have p:=qcV (d:=d) M hkn L
   exact qbR p (Region.noSelect_spec J) R O L hkn hks (fun listed' a' w' hL=>seqB_ready hL.1) (fun c a w=>N c a _ v w) S (.inr ⟨fun _ h=>h,hw⟩) r.length listed a w inv (Region.free_spec p hf) m (.inl ⟨qaX z _,H⟩) (hS hls) hS
    (qbP M J R O L N r _ _ _ (inv.set m hkn) hB' (fun h=>hS (by rwa [qaQ hks] at h)) D)
 | (1,k) :: r,listed,a,w,inv,hB,hS,h => by
   simp only[Region.mixFB,Bool.and_eq_true,decide_eq_true_eq] at hB
   obtain⟨⟨⟨⟨hr,hf⟩,hkn⟩,hks⟩,hB'⟩:=hB
   have m:k∈Region.ready md ops listed:=by simpa using hr
   obtain⟨v,⟨z,H⟩,D⟩:=h
   have p:=qcV (d:=d) M hkn L
   exact qbR p (Region.noSelect_spec J) R O L hkn hks (fun listed' a' w' hL=>seqB_ready hL.1) (fun c a w=>N c a _ v w) (fun _=>True) (.inl fun _=>trivial) r.length listed a w inv (Region.free_spec p hf) m (.inl ⟨qaX z _,fun w _=>H w⟩) trivial hS
    (qbP M J R O L N r _ _ _ (inv.set m hkn) hB' (fun h=>hS (by rwa [qaQ hks] at h)) D)
 | (2,k) :: r,listed,a,w,inv,hB,hS,h => by
   simp only[Region.mixFB,Bool.and_eq_true,decide_eq_true_eq] at hB
   obtain⟨⟨hr,hkn⟩,hB'⟩:=hB
   obtain⟨z,y⟩:=h
   have p:=qcV (d:=d) M hkn L
   refine⟨fun h0=>(by rw[hr] at h0;cases h0),fun j hj=>?_⟩
   have o:=hj
   rw[hr] at hj
   have A:j=k:=by simpa using hj
   subst A
   refine⟨hkn,?_⟩
   unfold wpOp
   simp only[p]
   rw[if_pos (qaX z _)]
   refine .inl ?_
   unfold Oper.wp
   rcases y with⟨f,I,b,q⟩|⟨v,w',b,i,B⟩
   . rw [b]
     exact q.mono fun e w' ⟨u,he,i,B⟩=>by
      subst he
      exact⟨fun _=>i,qbP M J R O L N r _ _ _ (inv.set o hkn) hB' (fun _=>i) B⟩
   . rw[b]
     exact⟨fun _=>i,qbP M J R O L N r _ _ _ (inv.set o hkn) hB' (fun _=>i) B⟩
 |(t + 3,k):: r,listed,a,w,inv,hB,hS,h=>by
   simp only[Region.mixFB,Bool.and_eq_true,decide_eq_true_eq] at hB
   obtain⟨⟨⟨⟨hr,hkn⟩,hks⟩,E⟩,hB'⟩:=hB
   obtain⟨z,w',b,B⟩:=h
   have p:=qcV (d:=d) M hkn L
   refine⟨fun h0=>(by rw[hr] at h0;cases h0),fun j hj=>?_⟩
   have o:=hj
   rw[hr] at hj
   have A:j=k:=by simpa using hj
   subst A
   refine⟨hkn,?_⟩
   unfold wpOp
   simp only[p]
   rw[if_pos (qaX z _)]
   refine .inl ?_
   unfold Oper.wp
   rw[b]
   have C:(listed.setIfInBounds j true).getD s false=false->S w':=fun h=>by rw[E] at h;cases h
   exact⟨C,qbP M J R O L N r _ _ _ (inv.set o hkn) hB' C B⟩
theorem qaS{B:Nat}{a:Act}{w:World}{l:List Oper}(n s:Nat)(S:World->Prop)(q:List (Nat × Nat))(d:Oper)(A:P.follows .mixedOrders=true)(u:Region.mixFTailB .any l.toArray n s q=true)(y:∀c (a:Act) (dst:Option Tmp) v w,Q (.panic c) (a.put dst v) w->Q (.panic c) a w)(z:S w.drew)(h:wpMixF P S (wpList P l.toArray Q (l.drop n)) (q.map fun x=>(x.1,l.getD x.2 d)) a w.drew):(Code.region B l.toArray true).wp P Q a w:=by
 simp only[Region.mixFTailB,Bool.and_eq_true,decide_eq_true_eq] at u;obtain⟨⟨⟨⟨⟨f,o⟩,p⟩,m⟩,k⟩,b⟩:=u
 have i:HeadInv .any l.toArray n (Array.replicate l.toArray.size false):=
  ⟨U2,fun j oj _ hl=>(by rw[getD_replicate_false] at hl;cases hl),fun t _ ht=>getD_in (by simpa using ht) (getD_replicate_false _ _)⟩
 have H:=qbP (P:=P) (Q:=Q) (md:=.any) (g:=l.toArray.size-n) rfl f p m o y q _ a w.drew i b (fun _=>z) h;refine wp_region_any A ?_
 have:=qeK (g:=l.toArray.size-n) (fun listed' a' w' hL=>by
  have:=wpAny_of_seq (P:=P) (md:=.any) (Q':=Q) (l.drop n) n listed' a' w' (fun j=>by simp[List.getElem?_drop]) (by simpa using hL.1) hL.2
  simpa using this) _ _ a w.drew H
 rw[k,show n+(l.toArray.size-n)=l.toArray.size by omega] at this;exact this
end
section
variable {P:Program} {ops:Array Oper} {md:Region.Mode} {S:World->Prop} {Q:Exit->Act->World->Prop} {n g s m:Nat} {F:Fence}
structure NoBar (F:Fence):Prop where
 fn:∀f,F.fn f
 depth:F.depth=none
 fenced:∀(P:Program)(mm:Machine),Machine.fenced P F mm
theorem noBar_wide:NoBar Fence.wide:=⟨fun _=>trivial,rfl,fun P mm=>fenced_wide P mm⟩
theorem NoBar.inRound(h:NoBar F)(l:Nat):NoBar (F.inRound l):=⟨h.fn,h.depth,fun P mm=>h.fenced P mm⟩
theorem NoBar.steps(h:NoBar F){a b:Machine}(c:Steps P a b):StepsIn (Machine.fenced P F) P a b:=(StepsIn.of_steps c).mono fun mm _=>h.fenced P mm
theorem NoBar.calls(h:NoBar F){f:FuncId}{args:Array Value}{w:World}{R:Ending->World->Prop}(d:Calls P f args w R):CallsIn F m P f args w R :=
 ⟨h.fn f,fun cs _=>by
   obtain⟨e,w',b,r,s,x⟩:=((callsIn_wide (n:=0)).2 d).2 cs (room_wide _)
   refine⟨e,w',b,r,?_,x⟩
   cases e with
   |outgrown=>exact s
   |returned v=>exact StepsIn.mono (fun mm _=>h.fenced P mm) s
   |panicked c=>exact StepsIn.mono (fun mm _=>h.fenced P mm) s⟩
theorem NoBar.rows(h:NoBar F){row:String}{args:Array Value}{w:World}{R:Value->World->Prop}(b:Rows P row args w R):RowsIn F m P row args w R:=
 fun c cs _=>let ⟨v,w',r,s⟩:=b c cs;⟨v,w',r,h.steps s⟩
theorem NoBar.ask(h:NoBar F)(k:Nat):F.depth.isSome=true->1<=k:=fun hd=>by rw[h.depth] at hd;cases hd
def noDefer(ops:Array Oper):Bool:=ops.all fun o=>match o.op with|.defer _=>false|_=>true
theorem noDefer_at{i:Nat}{o:Oper}(h:noDefer ops=true)(f:ops[i]?=some o):∀c,o.op≠.defer c:=fun c hc=>by
 unfold noDefer at h
 rw[Array.all_eq_true] at h
 obtain⟨b,d⟩:=Array.getElem?_eq_some_iff.1 f
 have:=h i b
 rw[d,hc] at this
 cases this
theorem wpOpIn_of_wpOp{i:Nat}{K j:Act->World->Prop}{a:Act}{w:World}(hF:NoBar F)(hd:noDefer ops=true)(d:∀ a w,K a w->j a w)(h:wpOp P ops (fun _ _ _=>False) i K a w):wpOpIn F m P ops Q i j a w:=by
 unfold wpOp at h;unfold wpOpIn;cases hi:ops[i]? with
 |none=>rw[hi] at h;exact d _ _ h
 | some o =>
  rw[hi] at h;simp only at h ⊢;by_cases b:Region.wanted o (yielded ops a.tmps)=true
  . rw [if_pos b] at h ⊢;rcases h with h | ⟨_,_,_,h⟩
    . refine ⟨fun f _ => hF.fn f,?_⟩;rw [Oper.semAt_eq _ _ _ (noDefer_at hd hi)];unfold Oper.wp at h;generalize (execOp a.eval o).run P w=r at *;cases r with
      |ok nx w'=>
       cases nx<;>simp only[Oper.upon,Oper.uponIn] at h ⊢;case value=>exact d _ _ h
       case skip=>exact d _ _ h
       case defer=>exact d _ _ h
       case enter f args=>
        refine⟨hF.ask m,(hF.calls h).mono fun e w'' he=>?_⟩;cases e with
        |returned v=>exact d _ _ he
        |panicked c=>exact he.elim
        |outgrown=>obtain⟨_,_,h⟩:=he;exact h.elim
       case row row args=>exact⟨hF.ask m,(hF.rows h).mono fun v w'' hv=>d _ _ hv⟩
      |halt x w'=>cases x<;>simp only[Oper.upon] at h
    . exact h.elim
  . rw[if_neg b] at h ⊢;exact⟨fun f _=>hF.fn f,d _ _ h⟩
theorem wpAnyIn_of_HF(hF:NoBar F)(hd:noDefer ops=true){L:Array Bool->Act->World->Prop}(b:∀ listed a w,L listed a w->wpAnyIn F m P md ops Q g listed a w):
 ∀(f:Nat)(listed:Array Bool)(a:Act)(w:World),wpAnyHF P md ops (fun _ _ _=>False) S n s L f listed a w->wpAnyIn F m P md ops Q (f+g) listed a w
 |0,listed,a,w,h=>by rw[Nat.zero_add];exact b _ _ _ h
 |f + 1,listed,a,w,h=>by
   rw[show f+1+g=(f+g)+1 by omega]
   exact⟨fun h0=>absurd h0 h.1,fun i hi=>wpOpIn_of_wpOp hF hd (fun a' w' h'=>wpAnyIn_of_HF hF hd b f _ a' w' h'.2) (h.2 i hi).2⟩
theorem qeE:∀ (l:List Oper) (k:Nat) (listed:Array Bool) (a:Act) (w:World),(∀ j,l[j]?=ops[k+j]?) ->
 Region.seqB md ops l.length k listed=true->wpListIn F m P ops Q l a w->wpAnyIn F m P md ops Q l.length listed a w
 |[],_,_,_,_,_,hB,h=>⟨by simpa[Region.seqB] using hB,h⟩
 |o :: l,k,listed,a,w,hl,hB,h=>by
   have h0:ops[k]?=some o:=by simpa using(hl 0).symm
   simp only[List.length_cons,Region.seqB,Bool.and_eq_true,decide_eq_true_eq] at hB
   refine⟨fun h1=>(by rw[hB.1] at h1;cases h1),fun i hi=>?_⟩
   rw[hB.1] at hi
   have b:i=k:=by simpa using hi
   subst b
   have c:wpOpIn F m P ops Q i (wpListIn F m P ops Q l) a w:=by unfold wpOpIn;simp only[h0];exact h
   exact wpOpIn_mono (fun a' w' h'=>qeE l (i+1) _ a' w' (fun j=>by have:=hl (j+1);simpa[Nat.add_assoc,Nat.add_comm 1 j] using this) hB.2 h') c
theorem qdK{y:Nat}{a:Act}{w:World}{l:List Oper}(n s:Nat)(S:World->Prop)(q:List (Nat × Nat))(d:Oper)(hF:NoBar F)(v:P.follows .mixedOrders=true)(r:Region.mixFTailB .any l.toArray n s q=true)(hd:noDefer l.toArray=true)(u:S w.drew)(h:wpMixF P S (wpListIn F m P l.toArray Q (l.drop n)) (q.map fun x=>(x.1,l.getD x.2 d)) a w.drew):(Code.region y l.toArray true).wpIn F m P Q a w:=by
 simp only[Region.mixFTailB,Bool.and_eq_true,decide_eq_true_eq] at r;obtain⟨⟨⟨⟨⟨c,o⟩,p⟩,k⟩,i⟩,b⟩:=r
 have f:HeadInv .any l.toArray n (Array.replicate l.toArray.size false):=
  ⟨U2,fun j oj _ hl=>(by rw[getD_replicate_false] at hl;cases hl),fun t _ ht=>getD_in (by simpa using ht) (getD_replicate_false _ _)⟩
 have H:=qbP (P:=P) (Q:=fun _ _ _=>False) (md:=.any) (g:=l.toArray.size-n) rfl c p k o (fun _ _ _ _ _ h=>h.elim) q _ a w.drew f b (fun _=>u) h;refine wpIn_region_any v ?_
 have:=wpAnyIn_of_HF (F:=F) (m:=m) (Q:=Q) (g:=l.toArray.size-n) hF hd (fun listed' a' w' hL=>by
  have:=qeE (F:=F) (m:=m) (P:=P) (md:=.any) (Q:=Q) (l.drop n) n listed' a' w' (fun j=>by simp[List.getElem?_drop]) (by simpa using hL.1) hL.2
  simpa using this) _ _ a w.drew H
 rw[i,show n+(l.toArray.size-n)=l.toArray.size by omega] at this;exact this
end
end Go.Proofs.YtndipkplnkfoeaaGreat
namespace Go.Proofs.YtndipkplnkfoeaaGreat
open Go.RowKit Pln
def IntsUp(w:World)(lo:Nat)(A:Option Addr)(zs:List Int):Prop:=
 0<zs.length->∃b o,A=some (zA b o)/\lo<=b/\b<w.heap.size/\∀j,j<zs.length->w.cell? (zA b (o+j))=some (Y (zs.getD j 0))
theorem IntsUp.ints{w:World}{f:Nat}{A:Option Addr}{zs:List Int}(h:IntsUp w f A zs):IntsAt w w.heap.size A zs:=fun hz=>by
 obtain⟨b,o,e,_,c,d⟩:=h hz
 exact⟨b,o,e,c,d⟩
theorem IntsUp.of_blocks{w w':World}{g:Nat}{A:Option Addr}{zs:List Int}(h:IntsUp w g A zs)(l:w.heap.size<=w'.heap.size)(i:∀k,g<=k->k<w.heap.size->w'.heap[k]?=w.heap[k]?):IntsUp w' g A zs:=fun hz=>by
 obtain⟨b,o,e,c,d,f⟩:=h hz
 refine⟨b,o,e,c,U0,fun j hj=>?_⟩
 have:w'.cell? (zA b (o+j))=w.cell? (zA b (o+j)):=by
  unfold World.cell?
  rw[i b c d]
 exact this.trans (f j hj)
theorem RowsUp.grow{w w':World}{c:Nat}{A:Option Addr}{zs:List (List Int)}(h:RowsUp w c A zs)(b:Below w.heap.size w w'):RowsUp w' c A zs:=h.of_blocks b.size fun k _ hk=>b.block k hk
structure LGrid (w:World) (B:Nat) (v:Value) (rows:List (List Nat)) (bs:List (Nat × Nat)) (k:Nat):Prop where
 len:bs.length=k
 le:k<=rows.length
 out:w.ownsRow B 23 1 v k ((List.range k).map (hdr rows bs))
 row:∀i,i<k->Row w B (bk bs i) (cp bs i) (nz (rows.getD i []))
 apart:∀i,i<k->v.ownBlock≠some (bk bs i)
theorem LGrid.step{w w1 w2:World}{B:Nat}{v v':Value}{rows:List (List Nat)}{t:List (Nat × Nat)}{k g c:Nat}{o:Obj}(h:LGrid w B v rows t k)(C:k<rows.length)(D:B<=w.heap.size)(y:Below w.heap.size w w1)(A:Row w1 w.heap.size g c (nz (rows.getD k [])))(u:w2.ownsRow B 23 1 v' (k+1) ((List.range k).map (hdr rows t)++[zS g (rows.getD k []).length c]))(z:(w1.alloc o).grownBy w2 v.ownBlock)(x:v'.ownBlock=v.ownBlock\/v'.ownBlock=some (w1.alloc o).heap.size):
 LGrid w2 B v' rows (t++[(g,c)]) (k+1):=by
 have r:=A.lt;have s:=y.size;have p:∀b,v.ownBlock=some b->b<w.heap.size:=fun b e=>(h.out.lt b e).2;have f:∀i,i<k->bk (t++[(g,c)]) i=bk t i/\cp (t++[(g,c)]) i=cp t i:=fun i hi=>by unfold bk cp;rw[getD_snoc_lt (by rw[h.len];exact hi)];exact⟨rfl,rfl⟩
 have j:bk (t++[(g,c)]) k=g/\cp (t++[(g,c)]) k=c:=by unfold bk cp;have:=getD_snoc_eq t (g,c) (0,0);rw[h.len] at this;rw[this];exact⟨rfl,rfl⟩
 refine⟨by simp[h.len],C,?_,fun i hi=>?_,fun i hi=>?_⟩
 . rw[List.range_succ,List.map_append];(have q:(List.range k).map (hdr rows (t++[(g,c)]))=(List.range k).map (hdr rows t):=List.map_congr_left fun i hi=>by unfold hdr;rw[(f i (List.mem_range.1 hi)).1,(f i (List.mem_range.1 hi)).2]);rw[q,List.map_cons,List.map_nil];unfold hdr at u ⊢;rw[j.1,j.2];exact u
 . by_cases m : i = k
   . subst m;rw[j.1,j.2];exact((A.base (B':=B) U0).alloc o).grown z (fun e=>by have:=p g e.symm;omega)
   . (have d:i<k:=by omega);rw[(f i d).1,(f i d).2];have n:=h.row i d;exact((n.below y n.lt.2).alloc o).grown z (fun e=>h.apart i d e.symm)
 . by_cases m : i = k
   . subst m;rw[j.1];rcases x with e|e
     . rw[e];exact fun l=>by have:=p g l;omega
     . rw[e];intro l;injection l with l;simp at l;omega
   . (have d : i < k:=by omega);rw[(f i d).1];rcases x with e|e
     . rw[e];exact h.apart i d
     . rw[e];have:=(h.row i d).lt.2;intro l;injection l with l;simp at l;omega
theorem own_slice'{w:World}{base n:Nat}{e:TypeId}{v:Value}{xs:List Value}(h:w.ownsRow base e 1 v n xs):∃VA ck,v=zL VA n ck/\(0<n->∃R,VA=some (zA R 0)):=by
 rcases h.2 with⟨c,d⟩|⟨g,b,cur,f,_⟩
 . subst d;exact⟨_,_,c,fun h=>U0⟩
 . exact⟨_,_,f,fun _=>⟨g,rfl⟩⟩
theorem LGrid.up{w:World}{B:Nat}{m:Option Addr}{n:Nat}{rows:List (List Nat)}{l:List (Nat × Nat)}(h:LGrid w B (zL m rows.length n) rows l rows.length):RowsUp w B m (nzs rows):=by
 intro d;rw[nzs_len] at d;obtain⟨f,g,e,k⟩:=own_slice' h.out;injection e with e1 e2 e3;subst e1;obtain⟨R,rfl⟩:=k d;have b:=World.ownsRow.lt h.out R rfl;refine⟨R,0,rfl,b.1,b.2,fun i hi=>?_⟩;rw[nzs_len] at hi;have c:=h.row i hi;refine⟨bk l i,0,cp l i,?_,c.lt.1,c.lt.2,fun j hj=>?_⟩
 . rw[Nat.zero_add,nzs_getD,qaA,World.ownsRow.cellAt h.out i U0];simp[hi,hdr]
 . rw[nzs_getD] at hj ⊢;rw[Nat.zero_add];exact c.cell hj
theorem heap_set_same{w:World}{b:Nat}{cs:List Value}{t:TypeId}{fr:Nat × Nat}(h:w.heap[b]?=some (.cells cs.toArray t fr))(k:Nat)(v:Value):(w.setCell (zA b k) v).heap[b]?=some (.cells (cs.set k v).toArray t fr):=by simp[World.setCell,Array.getElem?_modify,h]
theorem IntsUp.lower{w:World}{g lo':Nat}{A:Option Addr}{zs:List Int}(h:IntsUp w g A zs)(i:lo'<=g):IntsUp w lo' A zs:=fun hz=>by
 obtain⟨b,o,e,f,c,d⟩:=h hz
 exact⟨b,o,e,U0,c,d⟩
theorem RowsUp.lower{w:World}{p lo':Nat}{A:Option Addr}{zs:List (List Int)}(h:RowsUp w p A zs)(q:lo'<=p):RowsUp w lo' A zs:=fun hz=>by
 obtain⟨b,o,e,m,f,k⟩:=h hz
 refine⟨b,o,e,U0,f,fun i hi=>?_⟩
 obtain⟨c,l,d,g,n,j⟩:=k i hi
 exact⟨c,l,d,g,U0,j⟩
def Far(l bo Ba b:Nat):Prop:=b≠l/\b≠bo/\b≠Ba
def SameBut(l bo Ba:Nat)(W W':World):Prop:=W.heap.size<=W'.heap.size/\∀b,b<W.heap.size->Far l bo Ba b->W'.heap[b]?=W.heap[b]?
section
variable {l bo Ba:Nat} {W W' W'':World}
theorem SameBut.refl:SameBut l bo Ba W W:=⟨Nat.le_refl _,fun _ _ _=>rfl⟩
theorem SameBut.trans(h:SameBut l bo Ba W W')(c:SameBut l bo Ba W' W''):SameBut l bo Ba W W'':=
 ⟨Nat.le_trans h.1 c.1,fun b hb hf=>(c.2 b (Nat.lt_of_lt_of_le hb h.1) hf).trans (h.2 b hb hf)⟩
theorem SameBut.of_below(h:Below W.heap.size W W'):SameBut l bo Ba W W':=⟨h.size,fun b hb _=>h.block b hb⟩
theorem SameBut.drew:SameBut l bo Ba W W.drew:=⟨Nat.le_refl _,fun _ _ _=>rfl⟩
theorem SameBut.set(u:Value):SameBut l bo Ba W (W.setCell (zA Ba 0) u):=⟨U2,fun b _ hf=>Below.heap_setCell W (zA Ba 0) u b hf.2.2⟩
theorem SameBut.cell(h:SameBut l bo Ba W W'){p:Addr}(c:Far l bo Ba p.block){v:Value}(b:W.cell? p=some v):W'.cell? p=some v:=
 (World.cell?_of_block (h.2 p.block (World.block_lt_of_cell? W _ b) c)).trans b
theorem SameBut.range(h:SameBut l bo Ba W W'){b o:Nat}{cs:List Value}(d:Far l bo Ba b)(c:W.rangeAt b o cs):W'.rangeAt b o cs:=fun j v hv=>h.cell (p:=(zA b (o+j))) d (c j v hv)
theorem SameBut.ints(h:SameBut l bo Ba W W'){b o:Nat}{zs:List Int}(m:Far l bo Ba b)(k:IntsAt W W.heap.size (some (zA b o)) zs):IntsAt W' W'.heap.size (some (zA b o)) zs:=fun hz=>by
 obtain⟨g,i,c,d,f⟩:=k hz
 injection c with c
 injection c with e1 e2
 subst e1
 subst e2
 exact⟨b,o,rfl,Nat.lt_of_lt_of_le d h.1,fun j hjl=>h.cell (p:=(zA b (o+j))) m (f j hjl)⟩
end
def lT:List Nat:=genM (mulM 2 1 (mdOf 1 [])) (2^1)
def GFFar(l bo Ba gb:Nat)(W:World):Prop:=
 Far l bo Ba gb/\gb<W.heap.size/\∃(A3:Option Addr)(n3 c3 ge ce gl cl:Nat),Far l bo Ba ge/\Far l bo Ba gl/\W.heap[gb]?=some (Df 2 1 A3 n3 c3 ((2^1:Nat):Int) ge lT.length ce gl (logL lT (2^1)).length cl)/\
  IntsAt W W.heap.size (zO ge) (nz lT)/\IntsAt W W.heap.size (zO gl) (nz (logL lT (2^1)))
theorem GFFar.same{l bo Ba t:Nat}{W W':World}(h:GFFar l bo Ba t W)(s:SameBut l bo Ba W W'):GFFar l bo Ba t W':=by obtain⟨d,f,g,r,i,m,j,n,k,b,c,o,p,q⟩:=h;exact⟨d,Nat.lt_of_lt_of_le f s.1,g,r,i,m,j,n,k,b,c,(s.2 t f d).trans o,s.ints b p,s.ints c q⟩
theorem GFFar.at_{l bo Ba p:Nat}{W:World}(h:GFFar l bo Ba p W):GFAt W W.heap.size p 2 1 lT (logL lT (2^1)):=by obtain⟨_,n,b,o,c,g,d,i,f,_,_,j,k,m⟩:=h;exact⟨n,b,o,c,g,d,i,f,j,k,m⟩
structure WkS (l bo Ba Bc By Bg Bf gb G:Nat) (lb:Array Value) (k:Nat) (W:World):Prop where
 fc:Far l bo Ba Bc
 code:W.rangeAt Bc 0 (Cr 2 1 3 G 1 1)
 gen:Far l bo Ba G/\∃R ro cr,Far l bo Ba R/\W.cell? (zA G 0)=some (zL (some (zA R ro)) 3 cr)/\∀j,j<3->W.cell? (zA R (ro+j))=some (Y 1)
 cnt:W.heap[Ba]?=some (.cells #[Y (k:Int)] 3 (0,0))
 yld:Far l bo Ba By/\W.cell? (zA By 0)=some (.func (.yield l) #[] #[])
 gee:Far l bo Ba Bg/\W.cell? (zA Bg 0)=some (zP gb)
 frm:Far l bo Ba Bf/\W.cell? (zA Bf 0)=some (.func (.func 168) #[] lb)
 gf:GFFar l bo Ba gb W
section
variable {l bo Ba Bc By Bg Bf gb G k:Nat} {lb:Array Value} {W W':World}
theorem WkS.same(h:WkS l bo Ba Bc By Bg Bf gb G lb k W)(m:SameBut l bo Ba W W'){n:Nat}(o:W'.heap[Ba]?=some (.cells #[Y (n:Int)] 3 (0,0))):WkS l bo Ba Bc By Bg Bf gb G lb n W':=by obtain⟨b,R,i,d,c,f,g⟩:=h.gen;exact⟨h.fc,m.range h.fc h.code,⟨b,R,i,d,c,m.cell b f,fun j hj=>m.cell c (g j hj)⟩,o,⟨h.yld.1,m.cell h.yld.1 h.yld.2⟩,⟨h.gee.1,m.cell h.gee.1 h.gee.2⟩,⟨h.frm.1,m.cell h.frm.1 h.frm.2⟩,h.gf.same m⟩
theorem WkS.lt(h:WkS l bo Ba Bc By Bg Bf gb G lb k W):Ba<W.heap.size:=(Array.getElem?_eq_some_iff.1 h.cnt).1
theorem WkS.grow(h:WkS l bo Ba Bc By Bg Bf gb G lb k W)(b:Below W.heap.size W W'):WkS l bo Ba Bc By Bg Bf gb G lb k W':=h.same (.of_below b) ((b.block Ba h.lt).trans h.cnt)
theorem WkS.set(h:WkS l bo Ba Bc By Bg Bf gb G lb k W)(b:Nat):WkS l bo Ba Bc By Bg Bf gb G lb b (W.setCell (zA Ba 0) (Y (b:Int))):=h.same (.set _) (heap_set_same h.cnt 0 _)
end
def RndOk(l bo:Nat)(J:Nat->World->Prop)(k:Nat)(W:World)(e:Ending)(W':World):Prop:=e=.returned (.bool true)/\J (k+1) W'/\W.heap.size<=W'.heap.size/\∀b,b<W.heap.size->b≠l->b≠bo->W'.heap[b]?=W.heap[b]?
def RndsOk(l bo Bz:Nat)(J:Nat->World->Prop):Prop:=
 ∀(k g c:Nat)(W:World),k<2->J k W->Bz<=W.heap.size->Row W Bz g c (nz (List.replicate 3 k))->YieldAt Fence.wide 0 Tryz.prog l (Dc k g 3 c) W (RndOk l bo J k W)
def FromOk(l bo Ba Bc By Bg Bf gb G:Nat)(lb:Array Value)(J:Nat->World->Prop)(k:Nat)(W:World)(e:Ending)(W':World):Prop:=
 e=.returned (.bool true)/\WkS l bo Ba Bc By Bg Bf gb G lb k W'/\J k W'/\SameBut l bo Ba W W'
theorem from1_c(l bo Ba Bc By Bg Bf gb G Bz:Nat)(lb:Array Value)(J:Nat->World->Prop)(hJ:∀j A B,J j A->Below Bz A B->J j B)(hz:Bz<=Ba)(ab:Ba≠l)(ac:Ba≠bo)(hY:RndsOk l bo Bz J)(k:Nat)(hk:k<2)(bw ow cw:Nat)(ad:Far l bo Ba bw)(W:World)(hS:WkS l bo Ba Bc By Bg Bf gb G lb k W)(h0:J k W)(hA:IntsAt W W.heap.size (some (zA bw ow)) (nz (List.replicate 3 k))):
 zC 168 #[Y 1,zL (some (zA bw ow)) 3 cw,zP Bc,zP Ba,zP By,zP Bg,zP Bf] W (FromOk l bo Ba Bc By Bg Bf gb G lb J (k+1) W):=by
 obtain⟨m,M⟩:∃m,Hid (m=k+1):=⟨_,rfl⟩;rw[<- M.out];have R:(m:Int)=(k:Int)+1:=by have:=M.out;omega
 have r:=zH hS;have U:=zH hY;have K:=zH hJ;have aa:IntKind.i64.wrap ((m:Int)-1)=(k:Int):=by rw[IntWalk.i64_in _ U0];omega
 have c4:W.cell? (zA Bc 4)=some (zS G 1 1):=r.out.code 4 _ rfl;have ca:W.cell? (zA Ba 0)=some (Y (k:Int)):=cell_of_row _ _ 0 _ _ _ r.out.cnt;have fa:W.frozen? (zA Ba 0)=false:=by simp[World.frozen?,r.out.cnt]
 have d:=zH (r.out.set m);have q:=zH (K.out k W _ h0 ((Below.refl Bz W).setCell (p:=(zA Ba 0)) hz (Y (m:Int))));rw[R] at d q;have o:Hid (SameBut l bo Ba W (W.setCell (zA Ba 0) (Y ((k:Int)+1)))):=SameBut.set _;have s:=zH (o.out.ints ad hA);have C:Hid (Bz<=(W.setCell (zA Ba 0) (Y ((k:Int)+1))).heap.size):=by show _<=_;have:=r.out.lt;simp;omega
 clear hS hY hJ h0 hA;refine(callsIn_wide (n:=0)).1 ?_;refine callsIn_of_wp Tryz.func168 rfl trivial ?_;simp only[Tryz.ntmps168,List.size_toArray,List.length_cons,List.length_nil,Nat.reduceAdd,Nat.reduceSub,Array.replicate_succ,Array.replicate_zero,List.push_toArray,List.append_toArray,List.nil_append,List.cons_append];clear R;repeat(first|go_values|gi_guarded|gi_step|gi_upon)
 generalize W.setCell (zA Ba 0) (Y ((k:Int)+1))=i at *;clear c4 ca fa r;refine qdK 5 5 (WkS l bo Ba Bc By Bg Bf gb G lb m) [(0,0),(0,1),(1,2),(1,3),(2,4)] default noBar_wide U1 U1 U1 (d.out.same SameBut.drew d.out.cnt) ?_;have v:=zH (K.out _ i i.drew q.out (Below.refl Bz i).drew);have t:Hid (SameBut l bo Ba W i.drew):=o.out.trans .drew;have h:Hid (Bz<=i.drew.heap.size):=C.out;have H:=zH (sclone_c (nz (List.replicate 3 k)) (some (zA bw ow)) cw i.drew (s.out.grow (Nat.le_refl _) (Below.refl _ i).drew) (by rw[qaA,List.length_replicate];omega) (by rw[qaA,List.length_replicate];omega));have x:Hid ((nz (List.replicate 3 k)).length=3):=by show _=_;rw[qaA,List.length_replicate]
 rw[x.out] at H;have z:Hid (WkS l bo Ba Bc By Bg Bf gb G lb m i.drew):=d.out.same SameBut.drew d.out.cnt;clear q o C s d;generalize i.drew=Z at *;simp only[List.map_cons,List.map_nil,List.getD_cons_zero,List.getD_cons_succ];apply qbF rfl
 . intro V P;have y:=P.yld.2;go_simp;rfl
 go_simp;apply qbF rfl
 . intro V P;have y:V.cell? (zA Ba 0)=some (Y (m:Int)):=cell_of_row _ _ 0 _ _ _ P.cnt;go_simp;rfl
 go_simp;apply qaM rfl
 . intro V;go_simp;rfl
 go_simp;apply qaM rfl
 . intro V;go_simp;rfl
 go_simp;apply qbE rfl
 . go_simp;exact⟨rfl,rfl⟩
 with_reducible refine H.out.mono ?_
 rintro e D ⟨⟨g,c,rfl,hrow⟩,hb2⟩;have f:=zH (z.out.grow hb2);have L:=zH (K.out _ Z D v.out (hb2.mono h.out));have I:Hid (SameBut l bo Ba W D):=t.out.trans (.of_below hb2);have O:Hid (Bz<=D.heap.size):=Nat.le_trans h.out hb2.size;have N:=zH (hrow.base (Nat.le_trans h.out hrow.lt.1));refine⟨_,rfl,f.out,?_⟩;go_simp;refine qbH ?_;show wpListIn _ _ _ _ _ _ _ _;clear hrow hb2 z v t h H;obtain⟨fn,T,E,Q,hy,S⟩:=U.out k g c D hk L.out O.out N.out;gi_wp2_with ((try refine⟨rfl,?_⟩);refine S.mono ?_;clear S;rintro e X ⟨rfl,hJ3,hsz3,hsm3⟩);go_ret;have u:SameBut l bo Ba D X:=⟨hsz3,fun b hb hf=>hsm3 b hb hf.1 hf.2.1⟩;exact⟨rfl,f.out.same u ((hsm3 Ba f.out.lt ab ac).trans f.out.cnt),M.out ▸ hJ3,I.out.trans u⟩
theorem gorder_e(c B p m:Nat)(l f:List Nat)(w:World)(d:GFAt w B c p m l f):
 zC 120 #[zP c] w fun e w'=>e=.returned (Y ((p^m:Nat):Int))/\w=w':=by obtain⟨_,_,_,_,_,_,_,_,b,_,_,_,_⟩:=d.cells;generalize p^m=q at *;clear d;go_enter Tryz.func120,Tryz.ntmps120;go_wp2_with fail;go_ret;exact⟨rfl,rfl⟩
end Go.Proofs.YtndipkplnkfoeaaGreat
namespace Go.Proofs.YtndipkplnkfoeaaGreat
open Go.RowKit
structure StD where
 rule:Int
 p:Int
 m:Int
 mod:List Int
 n:Int
 gen:List (List Int)
 low:Int
 frm:List Int
 at_:List Int
 bp:Int
 bm:Int
 bmod:Nat
 r0:Int
 r1:Int
 r2:Int
 r3:Int
 r4:Int
 points:Nat
 mults:Nat
 perm:Nat
 scale:Nat
 frob:Int
 sets:List (List Int)
def StD.ok(d:StD):Prop:=
 d.mod.length<=maxLen/\d.gen.length<=maxLen/\d.frm.length<=maxLen/\d.at_.length<=maxLen/\d.bmod<=maxLen/\d.points<=maxLen/\d.mults<=maxLen/\d.perm<=maxLen/\d.scale<=maxLen/\d.sets.length<=maxLen
def stCells(d:StD)(Am Ag Af Aa Ab Ap Aq Ar As At:Option Addr)(cm cg cf ca cb cp cq cr cs ct:Nat):List Value :=
 [Y d.rule,Y d.p,Y d.m,zL Am d.mod.length cm,Y d.n,zL Ag d.gen.length cg,Y d.low,zL Af d.frm.length cf,zL Aa d.at_.length ca,
   Y d.bp,Y d.bm,zL Ab d.bmod cb,Y d.r0,Y d.r1,Y d.r2,Y d.r3,Y d.r4,zL Ap d.points cp,zL Aq d.mults cq,zL Ar d.perm cr,zL As d.scale cs,Y d.frob,zL At d.sets.length ct]
def StC(w:World)(B:Nat)(d:StD)(cs:List Value):Prop:=
 ∃(Am Ag Af Aa Ab Ap Aq Ar As At:Option Addr)(cm cg cf ca cb cp cq cr cs' ct:Nat),cs=stCells d Am Ag Af Aa Ab Ap Aq Ar As At cm cg cf ca cb cp cq cr cs' ct/\d.gen.length<=cg/\
  IntsAt w B Am d.mod/\RowsAt w B Ag d.gen/\IntsAt w B Af d.frm/\IntsAt w B Aa d.at_/\RowsAt w B At d.sets
def StsAt(w:World)(B:Nat)(A:Option Addr)(ds:List StD):Prop:=
 0<ds.length->∃b o,A=some (zA b o)/\b<B/\∀i d,ds[i]?=some d->∃cs,w.rangeAt b (o+i*23) cs/\StC w B d cs
theorem StC.len{w:World}{B:Nat}{d:StD}{cs:List Value}(h:StC w B d cs):cs.length=23:=by obtain⟨_,_,_,_,_,_,_,_,_,_,_,_,_,_,_,_,_,_,_,_,rfl,_⟩:=h;rfl
theorem StC.one{w:World}{B:Nat}{d:StD}{cs:List Value}(h:StC w B d cs):∀v∈cs,v.oneCell'=true:=by obtain⟨_,_,_,_,_,_,_,_,_,_,_,_,_,_,_,_,_,_,_,_,rfl,_⟩:=h;unfold stCells;simp only[List.mem_cons,List.not_mem_nil,or_false,forall_eq_or_imp,forall_eq];simp[Value.oneCell']
theorem StC.keep{w w':World}{B:Nat}{d:StD}{cs:List Value}(h:StC w B d cs)(A:Below B w w'):StC w' B d cs:=by obtain⟨j,i,g,c,f,k,l,Ar,m,At,p,o,n,ca,cb,cp,q,r,b,s,e,z,t,u,v,x,y⟩:=h;exact⟨j,i,g,c,f,k,l,Ar,m,At,p,o,n,ca,cb,cp,q,r,b,s,e,z,t.keep A,u.keep A,v.keep A,x.keep A,y.keep A⟩
theorem StsAt.keep{w w':World}{B:Nat}{A:Option Addr}{m:List StD}(h:StsAt w B A m)(n:Below B w w'):StsAt w' B A m:=fun hz=>by
 obtain⟨b,o,e,c,l⟩:=h hz
 refine⟨b,o,e,c,fun i d hd=>?_⟩
 obtain⟨f,g,k⟩:=l i d hd
 exact⟨f,fun j v hv=>(n.cell (p:=(zA b (o+i*23+j))) c).trans (g j v hv),k.keep n⟩
theorem StsAt.at_{w:World}{B:Nat}{A:Option Addr}{j:List StD}(h:StsAt w B A j){i:Nat}(k:i<j.length):∃b o cs,A=some (zA b o)/\b<B/\w.rangeAt b (o+i*23) cs/\StC w B (j[i]'k) cs:=by obtain⟨b,o,e,c,g⟩:=h U0;obtain⟨cs,d,f⟩:=g i _ (List.getElem?_eq_getElem k);exact⟨b,o,cs,e,c,d,f⟩
theorem stepSize:(Tryz.prog.info? 40).map (·.size)=some 23:=U1
def SB(w:World)(b:Nat)(cs:List Value)(W:World):Prop:=W.heap[b]?=some (.cells cs.toArray 40 (0,0))/\Below w.heap.size w W/\w.heap.size<=b/\b<W.heap.size
section
variable {w:World} {b:Nat} {cs:List Value} {W W':World}
theorem SB.grow(h:SB w b cs W)(i:Below W.heap.size W W'):SB w b cs W':=by obtain⟨d,f,g,c⟩:=h;exact⟨(i.block _ c).trans d,f.trans (i.mono U0),g,Nat.lt_of_lt_of_le c i.size⟩
theorem SB.cell(h:SB w b cs W){k:Nat}{v:Value}(c:cs[k]?=some v):W.cell? (zA b k)=some v:=by rw[cell_of_row W b k _ _ _ h.1];simpa using c
theorem SB.range(h:SB w b cs W):W.rangeAt b 0 cs:=range_of_row h.1
theorem SB.sub(h:SB w b cs W)(o:Nat)(f:List Value)(hd:∀j,j<f.length->cs[o+j]?=f[j]?):W.rangeAt b o f:=fun j v hv=>by
 have d:j<f.length:=(List.getElem?_eq_some_iff.1 hv).1
 have c:=hd j d
 rw[hv] at c
 have:=range_of_row h.1 (o+j) v c
 rw[Nat.zero_add] at this
 exact this
end
theorem sb_new(w:World)(cs:List Value):SB w w.heap.size cs (w.alloc (.cells cs.toArray 40)):=⟨heap_alloc_new _ _,(Below.refl _ _).alloc (Nat.le_refl _) _,Nat.le_refl _,U2⟩
theorem StC.more{w:World}{B B':Nat}{d:StD}{cs:List Value}(h:StC w B d cs)(A:B<=B'):StC w B' d cs:=by obtain⟨j,i,g,c,f,k,l,Ar,m,At,p,o,n,ca,cb,cp,q,r,b,s,e,z,t,u,v,x,y⟩:=h;exact⟨j,i,g,c,f,k,l,Ar,m,At,p,o,n,ca,cb,cp,q,r,b,s,e,z,t.more A,u.more A,v.more A,x.more A,y.more A⟩
theorem StC.lift{w W:World}{d:StD}{cs:List Value}(h:StC w w.heap.size d cs)(c:Below w.heap.size w W):StC W W.heap.size d cs:=(h.keep c).more c.size
theorem range_keep_v{w w':World}{b o:Nat}{cs:List Value}(h:w.rangeAt b o cs)(c:w'.heap[b]?=w.heap[b]?):w'.rangeAt b o cs:=fun j v hv=>(World.cell?_of_block (a:=(zA b (o+j))) c).trans (h j v hv)
end Go.Proofs.YtndipkplnkfoeaaGreat
namespace Go.Proofs.YtndipkplnkfoeaaGreat
open Go.RowKit Pln
def formZ(d:StD):Int:=if codeZ d.p d.m d.mod d.n d.gen≠0 then codeZ d.p d.m d.mod d.n d.gen else if d.low<1\/d.n+1<d.low then 6 else 0
theorem codeZ_n{p m:Int}{mod:List Int}{n:Int}{zs:List (List Int)}(h:codeZ p m mod n zs=0):fieldOK p m mod=true/\lengthZ n=0/\spZ p m mod n zs=0:=by
 unfold codeZ at h;split at h
 . cases h
 . rename_i h1;split at h
   . cases h
   . rename_i h2;exact⟨by simpa using h1,by simpa using h2,h⟩
theorem formed_g(d:StD)(cs:List Value)(w:World)(h:StC w w.heap.size d cs)(hk:d.ok):
 zC 15 #[.agg cs.toArray] w fun e w'=>e=.returned (Y (formZ d))/\Below w.heap.size w w':=by
 obtain⟨k,i,B,y,A,C,D,Ar,E,At,q,o,K,ca,cb,cp,L,M,r,O,rfl,_,P,Q,T,U,V⟩:=h;have f:=zH (sb_new w (stCells d k i B y A C D Ar E At q o K ca cb cp L M r O));have J:=zH P;have H:=zH Q;have s:Hid (formZ d=if codeZ d.p d.m d.mod d.n d.gen≠0 then codeZ d.p d.m d.mod d.n d.gen else if d.low<1\/d.n+1<d.low then 6 else 0):=rfl;have S:Hid (codeZ d.p d.m d.mod d.n d.gen=0->1<=d.n/\d.n<=64):=fun h=>by
  have:=(codeZ_n h).2.1;unfold lengthZ at this;split at this
  . cases this
  . omega
 obtain⟨v,x,_⟩:=hk;have e:maxLen=9223372036854775807:=rfl;rw[e] at v x;clear P Q T U V e;go_enter Tryz.func15,Tryz.ntmps15;go_upto_region 1 with fail;generalize w.alloc (.cells (stCells d k i B y A C D Ar E At q o K ca cb cp L M r O).toArray 40)=t at *;have l:Hid (t.rangeAt w.heap.size 1 (Ca d.p d.m k d.mod.length q d.n i d.gen.length o)):=f.out.sub 1 _ (fun j hj=>by rcases j with _|_|_|_|_|j<;>first|rfl|(simp at hj;omega));have I:=zH (codecheck_c d.p d.m d.mod k q d.n d.gen i o t ((J.out.keep f.out.2.1).more f.out.2.1.size) v ((H.out.keep f.out.2.1).more f.out.2.1.size) x);clear J H v x;generalize codeZ d.p d.m d.mod d.n d.gen=z at *;go_wp2_with (refine wpList_load_mid rfl 32 (.tmp 4) rfl w.heap.size 1 rfl (Ca d.p d.m k d.mod.length q d.n i d.gen.length o) _ l.out Tryz.underlying32 rfl codeSize ?_);(with_reducible refine I.out.mono ?_);rintro e R ⟨rfl,hb1⟩;have b:=zH (f.out.grow hb1);clear hb1 f I l;clear t;have y6:R.cell? (zA w.heap.size 6)=some (Y d.low):=b.out.cell rfl;have y4:R.cell? (zA w.heap.size 4)=some (Y d.n):=b.out.cell rfl;by_cases u:z=0
 . subst u;obtain ⟨n1,n2⟩:=S.out rfl;have g:=s.out;rw [if_neg U2] at g;generalize d.low=low at *;generalize d.n=N at *;have hw:IntKind.i64.wrap (N+1)=N+1:=IntWalk.i64_in _ U0;have c:=zH g;clear g s;by_cases X:low<1
   . go_wp2_with fail;go_ret;exact⟨qaG (by rw[c.out,if_pos (.inl X)]),b.out.2.1⟩
   . by_cases W : N + 1 < low
     . go_wp2_with fail;go_ret;exact⟨qaG (by rw[c.out,if_pos (.inr W)]),b.out.2.1⟩
     . go_wp2_with fail;go_ret;exact⟨qaG (by rw[c.out,if_neg U0]),b.out.2.1⟩
 . have Z:(z != 0)=true:=bne_iff_ne.2 u;have g:=s.out;rw[if_pos u] at g;have c:=zH g;clear g s;go_wp2_with fail;go_ret;exact⟨qaG (by rw[c.out]),b.out.2.1⟩
def TB(w:World)(cs ds:List Value)(t:TypeId)(W:World):Prop:=W.heap[w.heap.size]?=some (.cells cs.toArray t (0,0))/\W.heap[w.heap.size+1]?=some (.cells ds.toArray t (0,0))/\Below w.heap.size w W/\w.heap.size+1<W.heap.size
section
variable {w:World} {cs ds:List Value} {t:TypeId} {W W':World}
theorem TB.grow(h:TB w cs ds t W)(g:Below W.heap.size W W'):TB w cs ds t W':=by obtain⟨b,c,d,f⟩:=h;exact⟨(g.block _ U0).trans b,(g.block _ U0).trans c,d.trans (g.mono U0),Nat.lt_of_lt_of_le f g.size⟩
theorem TB.below(h:TB w cs ds t W):Below w.heap.size w W:=h.2.2.1
theorem TB.cell(h:TB w cs ds t W){k:Nat}{v:Value}(b:cs[k]?=some v):W.cell? (zA w.heap.size k)=some v:=by rw[cell_of_row W w.heap.size k _ _ _ h.1];simpa using b
theorem TB.cell1(h:TB w cs ds t W){k:Nat}{v:Value}(b:ds[k]?=some v):W.cell? (zA (w.heap.size+1) k)=some v:=by rw[cell_of_row W (w.heap.size+1) k _ _ _ h.2.1];simpa using b
theorem TB.sub(h:TB w cs ds t W)(o:Nat)(d:List Value)(hd:∀j,j<d.length->cs[o+j]?=d[j]?):W.rangeAt w.heap.size o d:=fun j v hv=>by
 have c:j<d.length:=(List.getElem?_eq_some_iff.1 hv).1
 have b:=hd j c
 rw[hv] at b
 have:=range_of_row h.1 (o+j) v b
 rw[Nat.zero_add] at this
 exact this
theorem TB.sub1(h:TB w cs ds t W)(o:Nat)(d:List Value)(hd:∀j,j<d.length->ds[o+j]?=d[j]?):W.rangeAt (w.heap.size+1) o d:=fun j v hv=>by
 have c:j<d.length:=(List.getElem?_eq_some_iff.1 hv).1
 have b:=hd j c
 rw[hv] at b
 have:=range_of_row h.2.1 (o+j) v b
 rw[Nat.zero_add] at this
 exact this
end
theorem tb_new(w:World)(cs ds:List Value)(t:TypeId):TB w cs ds t ((w.alloc (.cells cs.toArray t)).alloc (.cells ds.toArray t)):=by refine⟨(Below.heap_alloc _ _ _ U2).trans (heap_alloc_new _ _),?_,(((Below.refl _ _).alloc (Nat.le_refl _) _).alloc U2 _),U2⟩;have:=heap_alloc_new (w.alloc (.cells cs.toArray t)) (.cells ds.toArray t);rw[show(w.alloc (.cells cs.toArray t)).heap.size=w.heap.size+1 by simp] at this;exact this
def RelPS(w:World)(cs ds:List Value)(t:TypeId)(mod mod':List Int)(v:Value)(wr:World):Prop:=∃k:Nat,k<=mod.length/\v=Y k/\TB w cs ds t wr/\mod.take k=mod'.take k
theorem take_ext{l d:List Int}{k:Nat}(h:l.take k=d.take k)(f:k<l.length)(g:k<d.length)(e:l.getD k 0=d.getD k 0):l.take (k+1)=d.take (k+1):=by
 rw[List.take_add_one,List.take_add_one,h,List.getElem?_eq_getElem f,List.getElem?_eq_getElem g];have b:l.getD k 0=l[k]:=by simp[List.getD,f]
 have c:d.getD k 0=d[k]:=by simp[List.getD,g]
 rw[b,c] at e;rw[e]
theorem psame_c(p m p' m':Int)(mod aa:List Int)(A A':Option Addr)(c c':Nat)(w:World)(hA:IntsAt w w.heap.size A mod)(ab:IntsAt w w.heap.size A' aa)(hl:mod.length<=9223372036854775807):
 zC 81 #[Ch p m A mod.length c,Ch p' m' A' aa.length c'] w fun e w'=>e=.returned (.bool (decide (p=p'/\m=m'/\mod=aa)))/\Below w.heap.size w w':=by
 have f:=zH (tb_new w (Ci p m A mod.length c) (Ci p' m' A' aa.length c') 29);have N:=zH hA;have B:=zH ab;have O:=zH (rfl:decide (p=p'/\m=m'/\mod=aa)=decide (p=p'/\m=m'/\mod=aa));clear hA ab;generalize v:decide (p=p'/\m=m'/\mod=aa)=u at *;have g:=zH v;clear v O;go_enter Tryz.func81,Tryz.ntmps81;go_upto_region 1 with fail;generalize (w.alloc (Ce p m A mod.length c)).alloc (Ce p' m' A' aa.length c')=r at *;have S:r.cell? (zA w.heap.size 0)=some (Y p):=f.out.cell rfl;have T:r.cell? (zA w.heap.size 1)=some (Y m):=f.out.cell rfl;have U:r.cell? (zA w.heap.size 2)=some (zL A mod.length c):=f.out.cell rfl;have V:r.cell? (zA (w.heap.size+1) 0)=some (Y p'):=f.out.cell1 rfl;have W:r.cell? (zA (w.heap.size+1) 1)=some (Y m'):=f.out.cell1 rfl;have I:r.cell? (zA (w.heap.size+1) 2)=some (zL A' aa.length c'):=f.out.cell1 rfl;by_cases n:p=p'
 . have L : (p != p') = false := bne_eq_false_iff_eq.2 n;by_cases q:m=m'
   . have K : (m != m') = false := bne_eq_false_iff_eq.2 q;by_cases d:mod.length=aa.length
     . (have J : ((mod.length : Int) != (aa.length : Int)) = false := by simp [d]);have Q:=zH n;have P:=zH q;have j:=zH d;clear n q d;go_upto_region 4 with fail;go_loopw [31] (fun v31 wr=>RelPS w (Ci p m A mod.length c) (Ci p' m' A' aa.length c') 29 mod aa v31 wr) (fun v31 _=>mod.length-(intOf v31).toNat);case atStart=>exact ⟨0,U0,rfl,f.out,rfl⟩
       case round =>
        clear S T U V W I f L K J;obtain⟨k,hk,rfl,M,y⟩:=hrel;have f:=zH M;have t:=zH y;clear M y;by_cases x:k<mod.length
        . have I : wr.cell? (zA (w.heap.size + 1) 2) = some (zL A' aa.length c') := f.out.cell1 rfl;obtain ⟨b,o,rfl,hb,hc⟩:=(N.out.keep f.out.below).at_ x;(have l:k<aa.length:=by have:=j.out;omega);obtain ⟨b',o',rfl,X,Z⟩:=(B.out.keep f.out.below).at_ l;have D:=zH (take_ext t.out x l);have C:Hid (mod.getD k 0≠aa.getD k 0->mod≠aa):=fun h e=>h (by rw [e]);generalize mod.getD k 0=z at *;generalize aa.getD k 0=H at *;have k0:(0:Int)<=(k:Int):=U0;have k1:(k:Int)<(mod.length:Int):=U0;have k2:(k:Int)<(aa.length:Int):=U0;by_cases s:z=H
          . have E : (H != z) = false:=bne_eq_false_iff_eq.2 s.symm;have R:=zH (D.out s);clear s;go_wp2_with fail;go_roundw;case rel=>exact⟨k+1,U0,gn,f.out,R.out⟩
            case measure=>exact mE
          . have E:(H != z)=true:=bne_iff_ne.2 (Ne.symm s);(have i:Hid (u=false):=by show _=_;rw[<- g.out];exact decide_eq_false fun h=>C.out s h.2.2);clear s;go_wp2_with fail;go_ret;rw[i.out];exact⟨rfl,f.out.below⟩
        . (obtain rfl:k=mod.length:=by omega);(have i:Hid (u=true):=by show _=_;rw[<- g.out];refine decide_eq_true ⟨Q.out,P.out,?_⟩;have:=t.out;rw[List.take_length,List.take_of_length_le (by have:=j.out;omega)] at this;exact this);go_wp2_with fail;go_ret;rw[i.out];exact⟨rfl,f.out.below⟩
     . (have J:((mod.length:Int) != (aa.length:Int))=true:=by simpa using(fun h=>d U0));(have i:Hid (u=false):=by show _=_;rw[<- g.out];exact decide_eq_false fun h=>d (by rw[h.2.2]));clear n q d;go_wp2_with fail;go_ret;rw[i.out];exact⟨rfl,f.out.below⟩
   . have K:(m != m')=true:=bne_iff_ne.2 q;(have i:Hid (u=false):=by show _=_;rw[<- g.out];exact decide_eq_false fun h=>q h.2.1);clear n q;go_wp2_with fail;go_ret;rw[i.out];exact⟨rfl,f.out.below⟩
 . have L:(p != p')=true:=bne_iff_ne.2 n;(have i:Hid (u=false):=by show _=_;rw[<- g.out];exact decide_eq_false fun h=>n h.1);clear n;go_wp2_with fail;go_ret;rw[i.out];exact⟨rfl,f.out.below⟩
theorem dsame_c(p m R Q:Int)(mod P:List Int)(A U:Option Addr)(c X:Nat)(N T:Int)(zs S:List (List Int))(G V:Option Addr)(g Z:Nat)(w:World)(hA:IntsAt w w.heap.size A mod)(aa:IntsAt w w.heap.size U P)(hl:mod.length<=9223372036854775807)(hG:RowsAt w w.heap.size G zs)(ab:RowsAt w w.heap.size V S)(ac:zs.length<=9223372036854775807)(hr:∀ k,k<zs.length->(zs.getD k []).length<=9223372036854775807):
 zC 32 #[Ck p m A mod.length c N G zs.length g,Ck R Q U P.length X T V S.length Z] w fun e w'=>∃b,e=.returned (.bool b)/\Below w.heap.size w w'/\(b=true->p=R/\m=Q/\mod=P/\N=T/\zs=S):=by
 have f:=zH (tb_new w (Ca p m A mod.length c N G zs.length g) (Ca R Q U P.length X T V S.length Z) 32);have z:=zH hA;have s:=zH aa;have B:=zH hG;have v:=zH ab;have D:=zH hr;clear hA aa hG ab hr;go_enter Tryz.func32,Tryz.ntmps32;go_upto_region 1 with fail;generalize (w.alloc (Cf p m A mod.length c N G zs.length g)).alloc (Cf R Q U P.length X T V S.length Z)=x at *;have o:Hid (x.rangeAt w.heap.size 0 (Ci p m A mod.length c)):=f.out.sub 0 _ (fun j hj=>by rcases j with _|_|_|j<;>first|rfl|(simp at hj;omega));have q:Hid (x.rangeAt (w.heap.size+1) 0 (Ci R Q U P.length X)):=f.out.sub1 0 _ (fun j hj=>by rcases j with _|_|_|j<;>first|rfl|(simp at hj;omega));have y:=zH (psame_c p m R Q mod P A U c X x ((z.out.keep f.out.below).more f.out.below.size) ((s.out.keep f.out.below).more f.out.below.size) hl);have i:Hid (decide (p=R/\m=Q/\mod=P)=true->p=R/\m=Q/\mod=P):=fun h=>of_decide_eq_true h;generalize decide (p=R/\m=Q/\mod=P)=I at *
 go_wp2_with (first
  |(refine wpList_load_mid rfl 29 (.tmp 5) rfl w.heap.size 0 rfl (Ci p m A mod.length c) _ o.out Tryz.underlying29 rfl fieldSize ?_)
  |(refine wpList_load_mid rfl 29 (.tmp 7) rfl (w.heap.size+1) 0 rfl (Ci R Q U P.length X) _ q.out Tryz.underlying29 rfl fieldSize ?_))
 refine y.out.mono ?_;rintro e l ⟨rfl,hb1⟩;have d:=zH (f.out.grow hb1);clear hb1 y f o q;have E:l.cell? (zA w.heap.size 3)=some (Y N):=d.out.cell rfl;have H:l.cell? (zA w.heap.size 4)=some (zL G zs.length g):=d.out.cell rfl;have J:l.cell? (zA (w.heap.size+1) 3)=some (Y T):=d.out.cell1 rfl;have K:l.cell? (zA (w.heap.size+1) 4)=some (zL V S.length Z):=d.out.cell1 rfl;cases I
 . go_wp2_with fail;go_ret;exact⟨_,rfl,d.out.below,fun h=>by cases h⟩
 . by_cases r : N = T
   . have L:(N==T)=true:=beq_iff_eq.2 r;have n:=zH (sequalf_c zs S G V g Z l ((B.out.keep d.out.below).more d.out.below.size) ((v.out.keep d.out.below).more d.out.below.size) ac D.out);have u:Hid (decide (zs=S)=true->zs=S):=fun h=>of_decide_eq_true h;have C:=zH r;clear r;generalize decide (zs=S)=M at *;go_wp2_with fail;refine n.out.mono ?_;rintro e O ⟨rfl,nq,rfl⟩;have t:=zH (d.out.below.trans ((qaB (Below.refl l.heap.size l) nq).mono d.out.below.size));clear n E H J K;go_wp2_with fail;go_ret;exact⟨_,rfl,t.out,fun h=>⟨(i.out U2).1,(i.out U2).2.1,(i.out U2).2.2,C.out,u.out h⟩⟩
   . have L:(N==T)=false:=beq_false_of_ne r;go_wp2_with fail;go_ret;exact⟨_,rfl,d.out.below,fun h=>by cases h⟩
def RelIx(zs:List Int)(x:Int)(w:World)(v:Value)(wr:World):Prop:=∃k n:Nat,k<=zs.length/\v=Y k/\x∉zs.take k/\wr=w.drewN n
theorem not_take_succ{zs:List Int}{x:Int}{k:Nat}(b:k<zs.length)(h:x∉zs.take k)(c:x≠zs.getD k 0):x∉zs.take (k+1):=by
 have e:zs.getD k 0=zs[k]:=by simp[List.getD,b]
 rw[List.take_succ_eq_append_getElem b,<- e,List.mem_append,not_or];exact⟨h,by simpa only[List.mem_singleton] using c⟩
theorem sindex_c(zs:List Int)(x:Int)(A:Option Addr)(c:Nat)(w:World)(I:IntsAt w w.heap.size A zs)(J:zs.length<=9223372036854775807):
 zC 144 #[zL A zs.length c,Y x] w fun e w'=>(∃r:Int,e=.returned (Y r)/\(0<=r ↔ x∈zs))/\∃n,w'=w.drewN n:=by
 have u:=zH I;have s:Hid (∀k,k<zs.length->x∉zs.take k->x≠zs.getD k 0->x∉zs.take (k+1)):=fun k j h he=>not_take_succ j h he;have m:Hid (∀k,k<zs.length->x=zs.getD k 0->x∈zs):=fun k j he=>by
  have e:zs.getD k 0=zs[k]:=by simp[List.getD,j]
  rw[he,e];exact List.getElem_mem j
 have g:Hid (x∉zs.take zs.length->x∉zs):=fun h=>by rwa [List.take_length] at h
 clear I;go_enter Tryz.func144,Tryz.ntmps144;go_wp2_with fail;go_loopw [8] (fun v8 wr=>RelIx zs x w v8 wr) (fun v8 _=>zs.length-(intOf v8).toNat);case atStart=>exact⟨0,0,U0,rfl,U2,rfl⟩
 case round =>
  obtain⟨k,n,j,rfl,l,rfl⟩:=hrel;have i:=zH l;clear l;by_cases d:k<zs.length
  . obtain ⟨b,o,rfl,C,D⟩ := u.out.at_ d;have y:=zH (m.out k d);have B:=zH (s.out k d i.out);generalize zs.getD k 0=z at *;have E:(0:Int)<=(k:Int):=U0;have H:(k:Int)<(zs.length:Int):=U0;by_cases f:x=z
    . (have t:(x==z)=true:=by simp[f]);have p:=zH (y.out f);clear f;go_wp2_with fail;go_ret;exact⟨⟨(k:Int),rfl,by simp[p.out]⟩,n,df⟩
    . (have t : (x == z) = false:=by simp[f]);have q:=zH (B.out f);clear f;go_wp2_with fail;go_roundw;case rel=>exact⟨k+1,n,U0,gn,q.out,df⟩
      case measure=>exact mE
  . (obtain rfl:k=zs.length:=by omega);have v:=zH (g.out i.out);go_wp2_with fail;go_ret;exact⟨⟨-1,rfl,by simp[v.out]⟩,n,rfl⟩
theorem contains_c(zs:List Int)(x:Int)(A:Option Addr)(c:Nat)(w:World)(f:IntsAt w w.heap.size A zs)(g:zs.length<=9223372036854775807):
 zC 77 #[zL A zs.length c,Y x] w (Quiet (.bool (decide (x∈zs))) w):=by have b:=zH (sindex_c zs x A c w f g);clear f;go_enter Tryz.func77,Tryz.ntmps77;go_wp2_with fail;(with_reducible refine b.out.mono ?_);rintro e d ⟨⟨r,rfl,hr⟩,n1,rfl⟩;go_wp2_with fail;go_ret;exact⟨qaN (by by_cases h:x∈zs<;>simp_all),_,rfl⟩
end Go.Proofs.YtndipkplnkfoeaaGreat
namespace Go.Proofs.YtndipkplnkfoeaaGreat
open Go.RowKit
section
variable {P:Program} {ops:Array Oper} {md:Region.Mode} {S:World->Prop} {Q:Exit->Act->World->Prop} {n g s x lo:Nat} {ox:Oper} {ob:Obj}
def ptrTo(b:Nat):Value:=zP b
def StepTo(P:Program)(o:Oper)(a:Act)(W:World)(Φ:Value->World->Prop):Prop:=
 (∃f args,(execOp a.eval o).run P W=.ok (.enter f args) W/\Calls P f args W fun e w'=>∃u,e=.returned u/\Φ u w')\/(∃v w',(execOp a.eval o).run P W=.ok (.value v) w'/\Φ v w')
def wpX(P:Program)(S:World->Prop)(ob:Obj)(dx:Option Tmp)(lo:Nat)(K:Act->World->Prop)(r2:List (Nat × Oper)):List (Nat × Oper)->(Nat->Prop)->Act->World->Prop
 |[],F,a,w=>∀W b,Below w.heap.size w W->S W->lo<=b->¬F b->W.heap[b]?=some ob->wpMixF P S K r2 (a.put dx (ptrTo b)) W
 |(0,o):: r,F,a,w=>∃v,(o.guard=none/\∀w,S w->(execOp a.eval o).run P w=.ok (.value v) w)/\wpX P S ob dx lo K r2 r F (a.put o.dst v) w
 |(1,o):: r,F,a,w=>∃v,(o.guard=none/\∀w,(execOp a.eval o).run P w=.ok (.value v) w)/\wpX P S ob dx lo K r2 r F (a.put o.dst v) w
 |(_,o):: r,F,a,w=>o.guard=none/\∀W,Below w.heap.size w W->S W->StepTo P o a W fun u w'=>S w'/\Below W.heap.size W w'/\wpX P S ob dx lo K r2 r (fun b=>F b\/(W.heap.size<=b/\b<w'.heap.size)) (a.put o.dst u) w'
section
variable {dx:Option Tmp} {K:Act->World->Prop} {o:Oper} {r r2:List (Nat × Oper)} {F:Nat->Prop} {a:Act} {w:World}
theorem x_nil(h:∀W b,Below w.heap.size w W->S W->lo<=b->¬F b->W.heap[b]?=some ob->wpMixF P S K r2 (a.put dx (ptrTo b)) W):wpX P S ob dx lo K r2 [] F a w:=h
theorem x_val{v:Value}(b:o.guard=none)(c:∀w,S w->(execOp a.eval o).run P w=.ok (.value v) w)(h:wpX P S ob dx lo K r2 r F (a.put o.dst v) w):wpX P S ob dx lo K r2 ((0,o):: r) F a w:=⟨v,⟨b,c⟩,h⟩
theorem x_free{v:Value}(b:o.guard=none)(c:∀w,(execOp a.eval o).run P w=.ok (.value v) w)(h:wpX P S ob dx lo K r2 r F (a.put o.dst v) w):wpX P S ob dx lo K r2 ((1,o):: r) F a w:=⟨v,⟨b,c⟩,h⟩
theorem x_load_mid(j:o.guard=none)(f:TypeId)(y:Operand)(l:o.op=.load f y)(b c:Nat)(p:a.eval y=.pointer (some (zA b c)))(cs:List Value)(d:TypeDesc)(i:∀w,S w->w.rangeAt b c cs)(m:P.underlying f=some d)(hd:d.isRow=true)(k:(P.info? f).map (·.size)=some cs.length)(h:wpX P S ob dx lo K r2 r F (a.put o.dst (.agg cs.toArray)) w):wpX P S ob dx lo K r2 ((0,o):: r) F a w:=by refine x_val j (fun W hW=>?_) h;unfold execOp;simp only[l,p,Instr.loadAt,Instr.sureAddr,Sem.run_bind,Sem.run_pure,Result.andThen_ok,run_loadVar_mid W b c f cs d (i W hW) m hd k]
theorem x_call{f:FuncId}{args:Array Value}(c:o.guard=none)(d:∀W,(execOp a.eval o).run P W=.ok (.enter f args) W)(h:∀W,Below w.heap.size w W->S W->Calls P f args W fun e w'=>∃u,e=.returned u/\S w'/\Below W.heap.size W w'/\wpX P S ob dx lo K r2 r (fun b=>F b\/(W.heap.size<=b/\b<w'.heap.size)) (a.put o.dst u) w'):wpX P S ob dx lo K r2 ((2,o):: r) F a w:=
 ⟨c,fun W hb hS=>.inl ⟨f,args,d W,h W hb hS⟩⟩
end
def Region.apartB(ops:Array Oper)(x k:Nat):Bool:=match ops[x]?,ops[k]? with|some ox,some ok=>ox.apart ops ok|_,_=>false
def Region.mixXt(md:Region.Mode)(ops:Array Oper)(n g s x:Nat)(ord2:List (Nat × Nat)):List (Nat × Nat)->Array Bool->Bool
 |[],listed=>Region.mixFB md ops n g s ord2 listed
 |(0,k):: r,listed=>(Region.ready md ops listed).contains k && Region.free md ops listed k && decide (k<n) && decide (k≠s) && Region.waitsFor md ops s k && Region.apartB ops x k && Region.mixXt md ops n g s x ord2 r (listed.setIfInBounds k true)
 |(1,k):: r,listed=>(Region.ready md ops listed).contains k && Region.free md ops listed k && decide (k<n) && decide (k≠s) && Region.apartB ops x k && Region.mixXt md ops n g s x ord2 r (listed.setIfInBounds k true)
 |(_,k):: r,listed=>decide (Region.ready md ops listed=[k]) && decide (k<n) && decide (k≠s) && Region.apartB ops x k && Region.mixXt md ops n g s x ord2 r (listed.setIfInBounds k true)
def Region.mixXf(md:Region.Mode)(ops:Array Oper)(n g s x:Nat)(ord2:List (Nat × Nat)):List (Nat × Nat)->Array Bool->Bool
 |[],listed=>decide (Region.ready md ops listed=[x]) && Region.mixXt md ops n g s x ord2 [] (listed.setIfInBounds x true)
 |(0,k):: r,listed=>(Region.ready md ops listed).contains k && Region.free md ops listed k && decide (k<n) && decide (k≠s) && Region.waitsFor md ops s k && Region.mixXf md ops n g s x ord2 r (listed.setIfInBounds k true)
 |(1,k):: r,listed=>(Region.ready md ops listed).contains k && Region.free md ops listed k && decide (k<n) && decide (k≠s) && Region.mixXf md ops n g s x ord2 r (listed.setIfInBounds k true)
 |(t,k):: r,listed=>decide (Region.ready md ops listed=[k,x]) && decide (k<n) && decide (k≠s) && Region.mixXf md ops n g s x ord2 r (listed.setIfInBounds k true) && Region.mixXt md ops n g s x ord2 ((t,k):: r) (listed.setIfInBounds x true)
theorem qeM{k:Nat}{ok:Oper}(c:ops[x]?=some ox)(b:ops[k]?=some ok)(h:Region.apartB ops x k=true):ox.apart ops ok=true:=by unfold Region.apartB at h;simp only[c,b] at h;exact h
theorem qdX{l:List Oper}{d:Oper}{Lq:Act->World->Prop}(U:ops=l.toArray)(R:Region.noSelect ops=true)(Z:Region.sinkB md ops n=true)(X:Region.chainB md ops n=true)(T:n<ops.size)(V:∀ c (a:Act) (dst:Option Tmp) v w,Q (.panic c) (a.put dst v) w->Q (.panic c) a w)(hx:ops[x]?=some ox)(O:List (Nat × Nat)):
 ∀(ord:List (Nat × Nat))(listed:Array Bool)(F:Nat->Prop)(a:Act)(w W:World)(b:Nat),HeadInv md ops n listed->Region.mixXt md ops n g s x O ord listed=true->listed.getD s false=false->wpX P S ob ox.dst lo Lq (O.map fun y=>(y.1,l.getD y.2 d)) (ord.map fun y=>(y.1,l.getD y.2 d)) F a w->
  Below w.heap.size w W->S W->lo<=b->¬F b->W.heap[b]?=some ob->
  wpAnyHF P md ops Q S n s (fun listed' a' w'=>Region.seqB md ops g n listed'=true/\Lq a' w') (ord.length+O.length) listed (a.put ox.dst (ptrTo b)) W
 |[],listed,F,a,w,W,b,inv,hB,hls,h,hW,hS,hlo,hF,hb=>by
   rw[List.length_nil,Nat.zero_add]
   exact qbP U R Z X T V O listed _ W inv hB (fun _=>hS) (h W b hW hS hlo hF hb)
 | (0,k) :: r,listed,F,a,w,W,b,inv,hB,hls,h,hW,hS,hlo,hF,hb => by
   simp only[Region.mixXt,Bool.and_eq_true,decide_eq_true_eq] at hB
   obtain⟨⟨⟨⟨⟨⟨hr,hf⟩,hkn⟩,hks⟩,hw⟩,hap⟩,hB'⟩:=hB
   have o:k∈Region.ready md ops listed:=by simpa using hr
   obtain⟨v,⟨H,L⟩,J⟩:=h
   have i:=qcV (d:=d) U hkn T
   obtain⟨E,D,N⟩:=Oper.apart_spec (qeM hx i hap)
   have C:∀w,S w->(execOp (a.put ox.dst (ptrTo b)).eval (l.getD k d)).run P w=.ok (.value v) w:=fun w hw=>by
    rw[execOp_put (l.getD k d) (fun cs b=>Region.noSelect_spec R k _ cs b i) a ox.dst (ptrTo b) E]
    exact L w hw
   rw[List.length_cons,show r.length+1+O.length=(r.length+O.length)+1 by omega]
   refine qbR i (Region.noSelect_spec R) Z X T hkn hks (fun listed' a' w' hL=>seqB_ready hL.1) (fun c a w=>V c a _ v w) S (.inr ⟨fun _ h=>h,.inl hw⟩) _ listed _ W inv (Region.free_spec i hf) o (.inl ⟨qaX H _,C⟩) hS (fun _=>hS) ?_
   rw[Act.put_comm a (ptrTo b) v D]
   exact qdX U R Z X T V hx O r _ F _ w W b (inv.set o hkn) hB' (by rwa [qaQ hks]) J hW hS hlo hF hb
 | (1,k) :: r,listed,F,a,w,W,b,inv,hB,hls,h,hW,hS,hlo,hF,hb => by
   simp only[Region.mixXt,Bool.and_eq_true,decide_eq_true_eq] at hB
   obtain⟨⟨⟨⟨⟨hr,hf⟩,hkn⟩,hks⟩,hap⟩,hB'⟩:=hB
   have o:k∈Region.ready md ops listed:=by simpa using hr
   obtain⟨v,⟨H,L⟩,J⟩:=h
   have i:=qcV (d:=d) U hkn T
   obtain⟨E,D,N⟩:=Oper.apart_spec (qeM hx i hap)
   have C:∀w,True->(execOp (a.put ox.dst (ptrTo b)).eval (l.getD k d)).run P w=.ok (.value v) w:=fun w _=>by
    rw[execOp_put (l.getD k d) (fun cs b=>Region.noSelect_spec R k _ cs b i) a ox.dst (ptrTo b) E]
    exact L w
   rw[List.length_cons,show r.length+1+O.length=(r.length+O.length)+1 by omega]
   refine qbR i (Region.noSelect_spec R) Z X T hkn hks (fun listed' a' w' hL=>seqB_ready hL.1) (fun c a w=>V c a _ v w) (fun _=>True) (.inl fun _=>trivial) _ listed _ W inv (Region.free_spec i hf) o (.inl ⟨qaX H _,C⟩) trivial (fun _=>hS) ?_
   rw[Act.put_comm a (ptrTo b) v D]
   exact qdX U R Z X T V hx O r _ F _ w W b (inv.set o hkn) hB' (by rwa [qaQ hks]) J hW hS hlo hF hb
 | (t + 2,k) :: r,listed,F,a,w,W,b,inv,hB,hls,h,hW,hS,hlo,hF,hb => by
   simp only[Region.mixXt,Bool.and_eq_true,decide_eq_true_eq] at hB
   obtain⟨⟨⟨⟨hr,hkn⟩,hks⟩,hap⟩,hB'⟩:=hB
   obtain⟨H,B⟩:=h
   have i:=qcV (d:=d) U hkn T
   obtain⟨E,D,N⟩:=Oper.apart_spec (qeM hx i hap)
   rw[List.length_cons,show r.length+1+O.length=(r.length+O.length)+1 by omega]
   refine⟨fun h0=>(by rw[hr] at h0;cases h0),fun j hj=>?_⟩
   have I:=hj
   rw[hr] at hj
   have K:j=k:=by simpa using hj
   subst K
   refine⟨hkn,?_⟩
   unfold wpOp
   simp only[i]
   rw[if_pos (qaX H _)]
   refine .inl ?_
   unfold Oper.wp
   rw[execOp_put (l.getD j d) (fun cs b=>Region.noSelect_spec R j _ cs b i) a ox.dst (ptrTo b) E]
   rcases B W hW hS with⟨f,M,p,A⟩|⟨u,w',p,m,q,hr⟩
   . rw [p]
     exact A.mono fun e w' ⟨u,he,m,q,hr⟩=>by
      subst he
      have z:b<W.heap.size:=(Array.getElem?_eq_some_iff.1 hb).1
      refine⟨fun _=>m,?_⟩
      show wpAnyHF P md ops Q S n s _ _ _ ((a.put ox.dst (ptrTo b)).put (l.getD j d).dst u) w'
      rw[Act.put_comm a (ptrTo b) u D]
      exact qdX U R Z X T V hx O r _ _ _ w' w' b (inv.set I hkn) hB' (by rwa [qaQ hks]) hr (Below.refl _ _) m hlo (fun h=>h.elim hF (fun h=>U0)) ((q.block b z).trans hb)
   . rw[p]
     have z:b<W.heap.size:=(Array.getElem?_eq_some_iff.1 hb).1
     refine⟨fun _=>m,?_⟩
     show wpAnyHF P md ops Q S n s _ _ _ ((a.put ox.dst (ptrTo b)).put (l.getD j d).dst u) w'
     rw[Act.put_comm a (ptrTo b) u D]
     exact qdX U R Z X T V hx O r _ _ _ w' w' b (inv.set I hkn) hB' (by rwa [qaQ hks]) hr (Below.refl _ _) m hlo (fun h=>h.elim hF (fun h=>U0)) ((q.block b z).trans hb)
theorem qdV{l:List Oper}{d:Oper}{Lq:Act->World->Prop}(hl:ops=l.toArray)(T:Region.noSelect ops=true)(hs:Region.sinkB md ops n=true)(hc:Region.chainB md ops n=true)(hn:n<ops.size)(hQ:∀ c (a:Act) (dst:Option Tmp) v w,Q (.panic c) (a.put dst v) w->Q (.panic c) a w)(hx:ops[x]?=some ox)(V:x<n)(Z:x≠s)(W:ox.guard=none)(X:∀ (a:Act) (w:World),(execOp a.eval ox).run P w=.ok (.value (ptrTo w.heap.size)) (w.alloc ob))(U:∀ w,S w->S (w.alloc ob))(R:List (Nat × Nat)):
 ∀(ord:List (Nat × Nat))(listed:Array Bool)(F:Nat->Prop)(a:Act)(w:World),HeadInv md ops n listed->Region.mixXf md ops n g s x R ord listed=true->listed.getD s false=false->wpX P S ob ox.dst lo Lq (R.map fun y=>(y.1,l.getD y.2 d)) (ord.map fun y=>(y.1,l.getD y.2 d)) F a w->S w->lo<=w.heap.size->(∀b,F b->b<w.heap.size)->
  wpAnyHF P md ops Q S n s (fun listed' a' w'=>Region.seqB md ops g n listed'=true/\Lq a' w') (ord.length+R.length+1) listed a w
 |[],listed,F,a,w,inv,hB,hls,h,hS,hlo,hF=>by
   simp only[Region.mixXf,Bool.and_eq_true,decide_eq_true_eq] at hB
   obtain⟨hr,hB'⟩:=hB
   refine⟨fun h0=>(by rw[hr] at h0;cases h0),fun j hj=>?_⟩
   have q:=hj
   rw[hr] at hj
   have z:j=x:=by simpa using hj
   subst z
   refine⟨V,?_⟩
   unfold wpOp
   simp only[hx]
   rw[if_pos (qaX W _)]
   refine .inl ?_
   unfold Oper.wp
   rw[X]
   exact⟨fun _=>U w hS,qdX (ob:=ob) hl T hs hc hn hQ hx R [] _ F a w (w.alloc ob) w.heap.size (inv.set q V) hB' (by rwa [qaQ Z]) h ((Below.refl _ _).alloc (Nat.le_refl _) _) (U w hS) hlo (fun h=>by have:=hF _ h;omega) (heap_alloc_new _ _)⟩
 |(0,k):: r,listed,F,a,w,inv,hB,hls,h,hS,hlo,hF=>by
   simp only[Region.mixXf,Bool.and_eq_true,decide_eq_true_eq] at hB
   obtain⟨⟨⟨⟨⟨hr,K⟩,i⟩,m⟩,O⟩,hB'⟩:=hB
   have A:k∈Region.ready md ops listed:=by simpa using hr
   obtain⟨v,⟨H,M⟩,J⟩:=h
   have D:=qcV (d:=d) hl i hn
   rw[List.length_cons,show r.length+1+R.length+1=(r.length+R.length+1)+1 by omega]
   refine qbR D (Region.noSelect_spec T) hs hc hn i m (fun listed' a' w' hL=>seqB_ready hL.1) (fun c a w=>hQ c a _ v w) S (.inr ⟨fun _ h=>h,.inl O⟩) _ listed _ w inv (Region.free_spec D K) A (.inl ⟨qaX H _,M⟩) hS (fun _=>hS) ?_
   exact qdV hl T hs hc hn hQ hx V Z W X U R r _ F _ w (inv.set A i) hB' (by rwa [qaQ m]) J hS hlo hF
 |(1,k):: r,listed,F,a,w,inv,hB,hls,h,hS,hlo,hF=>by
   simp only[Region.mixXf,Bool.and_eq_true,decide_eq_true_eq] at hB
   obtain⟨⟨⟨⟨hr,K⟩,i⟩,m⟩,hB'⟩:=hB
   have A:k∈Region.ready md ops listed:=by simpa using hr
   obtain⟨v,⟨H,M⟩,J⟩:=h
   have D:=qcV (d:=d) hl i hn
   rw[List.length_cons,show r.length+1+R.length+1=(r.length+R.length+1)+1 by omega]
   refine qbR D (Region.noSelect_spec T) hs hc hn i m (fun listed' a' w' hL=>seqB_ready hL.1) (fun c a w=>hQ c a _ v w) (fun _=>True) (.inl fun _=>trivial) _ listed _ w inv (Region.free_spec D K) A (.inl ⟨qaX H _,fun w _=>M w⟩) trivial (fun _=>hS) ?_
   exact qdV hl T hs hc hn hQ hx V Z W X U R r _ F _ w (inv.set A i) hB' (by rwa [qaQ m]) J hS hlo hF
 | (t + 2,k) :: r,listed,F,a,w,inv,hB,hls,h,hS,hlo,hF => by
   simp only[Region.mixXf,Bool.and_eq_true,decide_eq_true_eq] at hB
   obtain⟨⟨⟨⟨hr,i⟩,m⟩,hB'⟩,I⟩:=hB
   have D:=qcV (d:=d) hl i hn
   rw[List.length_cons,show r.length+1+R.length+1=(r.length+R.length+1)+1 by omega]
   refine⟨fun h0=>(by rw[hr] at h0;cases h0),fun j hj=>?_⟩
   have q:=hj
   rw[hr] at hj
   rcases List.mem_cons.1 hj with z|z
   . subst z
     refine⟨i,?_⟩
     obtain⟨H,E⟩:=h
     unfold wpOp
     simp only[D]
     rw[if_pos (qaX H _)]
     refine .inl ?_
     unfold Oper.wp
     rcases E w (Below.refl _ _) hS with⟨f,N,B,C⟩|⟨u,w',B,o,p,hr⟩
     . rw [B]
       exact C.mono fun e w' ⟨u,he,o,p,hr⟩=>by
        subst he
        exact⟨fun _=>o,qdV hl T hs hc hn hQ hx V Z W X U R r _ _ _ w' (inv.set q i) hB' (by rwa [qaQ m]) hr o (Nat.le_trans hlo p.size) (fun b hb=>hb.elim (fun h=>Nat.lt_of_lt_of_le (hF b h) p.size) (fun h=>h.2))⟩
     . rw[B]
       exact⟨fun _=>o,qdV hl T hs hc hn hQ hx V Z W X U R r _ _ _ w' (inv.set q i) hB' (by rwa [qaQ m]) hr o (Nat.le_trans hlo p.size) (fun b hb=>hb.elim (fun h=>Nat.lt_of_lt_of_le (hF b h) p.size) (fun h=>h.2))⟩
   . have L : j = x:=by simpa using z
     subst L
     refine⟨V,?_⟩
     unfold wpOp
     simp only[hx]
     rw[if_pos (qaX W _)]
     refine .inl ?_
     unfold Oper.wp
     rw[X]
     refine⟨fun _=>U w hS,?_⟩
     have:=qdX (ob:=ob) (Q:=Q) (g:=g) hl T hs hc hn hQ hx R ((t+2,k):: r) _ F a w (w.alloc ob) w.heap.size (inv.set q V) I (by rwa [qaQ Z]) h ((Below.refl _ _).alloc (Nat.le_refl _) _) (U w hS) hlo (fun h=>by have:=hF _ h;omega) (heap_alloc_new _ _)
     rw[List.length_cons,show r.length+1+R.length=r.length+R.length+1 by omega] at this
     exact this
def Region.mixXTailB(md:Region.Mode)(ops:Array Oper)(n s x:Nat)(ord ord2:List (Nat × Nat)):Bool:=
 Region.noSelect ops && decide (n<ops.size) && Region.sinkB md ops n && Region.chainB md ops n && decide (ord.length+ord2.length+1=n) && decide (x<n) && decide (x≠s) && Region.mixXf md ops n (ops.size-n) s x ord2 ord (Array.replicate ops.size false)
theorem wp_region_mixx{M:Nat}{a:Act}{w:World}{l:List Oper}(n s x:Nat)(S:World->Prop)(z u:List (Nat × Nat))(d:Oper)(ox:Oper)(ob:Obj)(J:P.follows .mixedOrders=true)(D:Region.mixXTailB .any l.toArray n s x z u=true)(E:∀c (a:Act) (dst:Option Tmp) v w,Q (.panic c) (a.put dst v) w->Q (.panic c) a w)(L:l.toArray[x]?=some ox)(B:ox.guard=none)(C:∀(a:Act)(w:World),(execOp a.eval ox).run P w=.ok (.value (ptrTo w.heap.size)) (w.alloc ob))(A:∀w,S w->S (w.alloc ob))(I:S w.drew)(h:wpX P S ob ox.dst w.heap.size (wpList P l.toArray Q (l.drop n)) (u.map fun y=>(y.1,l.getD y.2 d)) (z.map fun y=>(y.1,l.getD y.2 d)) (fun _=>False) a w.drew):(Code.region M l.toArray true).wp P Q a w:=by
 simp only[Region.mixXTailB,Bool.and_eq_true,decide_eq_true_eq] at D;obtain⟨⟨⟨⟨⟨⟨⟨f,q⟩,r⟩,p⟩,k⟩,m⟩,o⟩,b⟩:=D
 have i:HeadInv .any l.toArray n (Array.replicate l.toArray.size false):=
  ⟨U2,fun j oj _ hl=>(by rw[getD_replicate_false] at hl;cases hl),fun t _ ht=>getD_in (by simpa using ht) (getD_replicate_false _ _)⟩
 have H:=qdV (P:=P) (Q:=Q) (md:=.any) (g:=l.toArray.size-n) rfl f r p q E L m o B C A u z _ (fun _=>False) a w.drew i b (getD_replicate_false _ _) h I (Nat.le_refl _) (fun _ h=>h.elim);refine wp_region_any J ?_
 have:=qeK (g:=l.toArray.size-n) (fun listed' a' w' hL=>by
  have:=wpAny_of_seq (P:=P) (md:=.any) (Q':=Q) (l.drop n) n listed' a' w' (fun j=>by simp[List.getElem?_drop]) (by simpa using hL.1) hL.2
  simpa using this) _ _ a w.drew H
 rw[k,show n+(l.toArray.size-n)=l.toArray.size by omega] at this;exact this
end
end Go.Proofs.YtndipkplnkfoeaaGreat
