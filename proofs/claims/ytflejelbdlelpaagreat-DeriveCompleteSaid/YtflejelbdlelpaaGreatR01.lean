/- Parts of the proof. -/
import Derived.Deep.DeepFit
import Derived.StillTail
import Derived.Lib.Hide
import Derived.Test.YtflejelbdlelpaaGreatChecked
import Derived.Deep.MidRow
import Derived.Deep.WholeRow
import Derived.Deep.Draws
set_option maxRecDepth 100000
set_option maxHeartbeats 8000000
namespace Go.Proofs.YtflejelbdlelpaaGreat
open Go Go.RowKit Go.Proofs.Tryz
abbrev OA:=Option Addr
abbrev LN:=List Nat
abbrev LL:=List (List Nat)
abbrev LI:=List Int
abbrev Wo:=World
abbrev zB(w W:World):Prop:=Below w.heap.size w W
abbrev Y(x:Int):Value:=.int .i64 x
abbrev zN(x:Nat):Value:=.int .i64 (x:Int)
abbrev zL(a:OA)(n c:Nat):Value:=.slice a n c
abbrev zS(b:Nat)(n c:Nat):Value:=.slice (some ⟨b,0,none⟩) n c
abbrev zP(b:Nat):Value:=.pointer (some ⟨b,0,none⟩)
abbrev zA(b o:Nat):Addr:=⟨b,o,none⟩
abbrev zO(b:Nat):OA:=some ⟨b,0,none⟩
abbrev zC:=Calls prog
theorem zV{b:Nat}{w:World}:Below b w w:=Below.refl _ _
theorem zn{n:Nat}:n<=n:=Nat.le_refl n
def zK(p:Prop):Prop:=p
theorem zK.o{p:Prop}(h:zK p):p:=h
theorem zK.out{p:Prop}(h:zK p):p:=h
theorem zH{P:Prop}(h:P):zK P:=h
abbrev C2(x0:Int)(x1:Int)(a2:OA)(l2 c2:Nat):Obj:=.cells #[Y x0,Y x1,.slice a2 l2 c2] 24
abbrev C3(x0:Int)(x1:Int)(a2:OA)(l2 c2:Nat)(x3:Int)(a4:OA)(l4 c4:Nat):List Value:=[Y x0,Y x1,.slice a2 l2 c2,Y x3,.slice a4 l4 c4]
abbrev C4(x0:Int)(x1:Int)(a2:OA)(l2 c2:Nat):Value:=.agg #[Y x0,Y x1,.slice a2 l2 c2]
abbrev C5(x0:Int)(x1:Int)(a2:OA)(l2 c2:Nat):List Value:=[Y x0,Y x1,.slice a2 l2 c2]
abbrev C6(x0:Int)(x1:Int)(x2:Int)(a3:OA)(l3 c3:Nat)(x4:Int)(a5:OA)(l5 c5:Nat)(x6:Int):Obj:=.cells #[Y x0,Y x1,Y x2,.slice a3 l3 c3,Y x4,.slice a5 l5 c5,Y x6,.slice none 0 0,.slice none 0 0,Y 0,Y 0,.slice none 0 0,Y 0,Y 0,Y 0,Y 0,Y 0,.slice none 0 0,.slice none 0 0,.slice none 0 0,.slice none 0 0,Y 0,.slice none 0 0] 37
abbrev C7(x0:Int)(x1:Int)(a2:OA)(l2 c2:Nat)(x3:Int)(a4:OA)(l4 c4:Nat):Value:=.agg #[Y x0,Y x1,.slice a2 l2 c2,Y x3,.slice a4 l4 c4]
abbrev C8(x0:Int)(x1:Int)(a2:OA)(l2 c2:Nat)(x3:Int)(a4:OA)(l4 c4:Nat):Obj:=.cells #[Y x0,Y x1,.slice a2 l2 c2,Y x3,.slice a4 l4 c4] 27
abbrev C9(x0:Int)(a1:OA)(l1 c1:Nat):Obj:=.cells #[Y x0,.slice a1 l1 c1] 60
abbrev Ca(a0:Nat)(a1:Nat)(a2:Nat)(a3:Nat)(a4:Nat):Array Value:=#[.pointer (some ⟨a0,0,none⟩),.pointer (some ⟨a1,0,none⟩),.pointer (some ⟨a2,0,none⟩),.pointer (some ⟨a3,0,none⟩),.pointer (some ⟨a4,0,none⟩)]
abbrev Cb(x0:Int)(x1:Int)(a2:OA)(l2 c2:Nat)(x3:Int)(a4:OA)(l4 c4:Nat):Array Value:=#[Y x0,Y x1,.slice a2 l2 c2,Y x3,.slice a4 l4 c4]
abbrev Cc(x0:Int)(x1:Int)(x2:Int)(a3:OA)(l3 c3:Nat)(x4:Int)(a5:OA)(l5 c5:Nat)(x6:Int):List Value:=[Y x0,Y x1,Y x2,.slice a3 l3 c3,Y x4,.slice a5 l5 c5,Y x6,.slice none 0 0,.slice none 0 0,Y 0,Y 0,.slice none 0 0,Y 0,Y 0,Y 0,Y 0,Y 0,.slice none 0 0,.slice none 0 0,.slice none 0 0,.slice none 0 0,Y 0,.slice none 0 0]
abbrev Cd(x0:Int)(x1:Int)(a2 l2 c2:Nat)(x3:Int)(a4 l4 c4:Nat)(a5 l5 c5:Nat):Obj:=.cells #[Y x0,Y x1,.slice (some ⟨a2,0,none⟩) l2 c2,Y x3,.slice (some ⟨a4,0,none⟩) l4 c4,.slice (some ⟨a5,0,none⟩) l5 c5] 166
abbrev Ce:Obj:=.cells #[Y 0,Y 0,.slice none 0 0,Y 0,.slice none 0 0] 27
abbrev Cf(a0:Nat)(x1:Int)(x2:Int):Array Value:=#[.pointer (some ⟨a0,0,none⟩),Y x1,Y x2]
abbrev Ch(x0:Int)(a1:OA)(l1 c1:Nat)(a2:Nat)(a3:Nat)(a4:Nat)(a5:Nat)(a6:Nat):Array Value:=#[Y x0,.slice a1 l1 c1,.pointer (some ⟨a2,0,none⟩),.pointer (some ⟨a3,0,none⟩),.pointer (some ⟨a4,0,none⟩),.pointer (some ⟨a5,0,none⟩),.pointer (some ⟨a6,0,none⟩)]
abbrev Ci(x0:Int)(x1:Int)(a2:OA)(l2 c2:Nat)(x3:Int)(a4 l4 c4:Nat)(a5 l5 c5:Nat):Obj:=.cells #[Y x0,Y x1,.slice a2 l2 c2,Y x3,.slice (some ⟨a4,0,none⟩) l4 c4,.slice (some ⟨a5,0,none⟩) l5 c5] 166
abbrev Cj(a0:Nat)(x1:Int):Array Value:=#[.pointer (some ⟨a0,0,none⟩),Y x1]
abbrev Ck(a0:OA):Array Value:=#[.pointer a0,Y 0,.slice none 0 0,.slice none 0 0]
abbrev Cl(x0:Int)(a1 l1 c1:Nat):Array Value:=#[Y x0,.slice (some ⟨a1,0,none⟩) l1 c1]
abbrev Cm(a0:Nat):Array Value:=#[.pointer (some ⟨a0,0,none⟩),Y 0]
abbrev Co:List Value:=[Y 0,Y 0,.slice none 0 0,Y 0,.slice none 0 0]
abbrev Cp(x0:Int)(a1:OA)(l1 c1:Nat):Value:=.agg #[Y x0,.slice a1 l1 c1]
abbrev Cq:Array Value:=#[Y 0,.slice none 0 0]
abbrev Cr:Obj:=.cells #[Y 0,Y 0,.slice none 0 0] 24
abbrev Cs:Obj:=.cells #[Y 0,.slice none 0 0] 60
theorem U8{P:Prop}(h:P:=by show _=_;rw[Int.natCast_add];exact IntWalk.i64_in _ (by omega)):P:=h
theorem df{P:Prop}(h:P:=by first|rfl|rw[World.drewN_drewN]):P:=h
theorem U6{P:Prop}(h:P:=by first|assumption|(simp;omega)):P:=h
theorem oc{P:Prop}(h:P:=by simp[Value.ownBlock]<;>omega):P:=h
theorem V1{P:Prop}(h:P:=by simp[Value.ownBlock];omega):P:=h
theorem U4{P:Prop}(h:P:=by first|rfl|simp_all):P:=h
theorem U9{P:Prop}(h:P:=by rw[World.drewN_drewN]):P:=h
theorem sc{P:Prop}(h:P:=by simp[Value.oneCell']):P:=h
theorem ml{P:Prop}(h:P:=by unfold maxLen;omega):P:=h
theorem U5{P:Prop}(h:P:=by show _<=_;omega):P:=h
theorem U7{P:Prop}(h:P:=by show _=_;simp):P:=h
theorem dk{P:Prop}(h:P:=by decide +kernel):P:=h
theorem U1{P:Prop}(h:P:=by kernel_rfl):P:=h
theorem so{P:Prop}(h:P:=by simp;omega):P:=h
theorem am{P:Prop}(h:P:=by assumption):P:=h
theorem U3{P:Prop}(h:P:=by go_num):P:=h
theorem dc{P:Prop}(h:P:=by decide):P:=h
theorem U0{P:Prop}(h:P:=by omega):P:=h
theorem U2{P:Prop}(h:P:=by simp):P:=h
end Go.Proofs.YtflejelbdlelpaaGreat
namespace Go.Proofs.YtflejelbdlelpaaGreat
open Go.RowKit
section
variable {P:Program}
theorem qaH{ops:Array Oper}{rest:List Oper}{o:Oper}{a:Act}{Q:Exit->Act->Wo->Prop}(f:o.guard=none)(d:TypeId)(x y:Operand)(j:o.op=.store d x y)(w:Wo)(c b:Array Value)(l:a.eval x=zP w.heap.size)(m:a.eval y=.agg b)(i:(P.info? d).map (·.size)=some b.size)(k:c.size=b.size)(g:b.all (·.oneCell')=true)(h:wpList P ops Q rest (a.put o.dst undef) (w.alloc (.cells b d))):wpList P ops Q (o :: rest) a (w.alloc (.cells c d)):=
 wpList_plain f fun _ hK=>by
  unfold Oper.wp execOp
  simp only[j,l,m,Sem.run_bind,run_storeAt_new w d c b i k g,Result.andThen_ok,Sem.run_pure]
  exact hK _ _ h
end
theorem qaG{k:IntKind}{a b:Int}(h:a=b):Ending.returned (.int k a)=.returned (.int k b):=by rw[h]
theorem qaN{a b:Bool}(h:a=b):Ending.returned (.bool a)=.returned (.bool b):=by rw[h]
theorem qaB{B:Nat}{a w:Wo}(h:Below B a w)(n:Nat):Below B a (w.drewN n):=⟨h.os,h.tape,h.output,h.size,h.block⟩
theorem qaR{B:Nat}{a w:Wo}(h:Below B a w){g:Nat}(b:B<=g)(cs:Array Value):Below B a (w.setRow g cs):=
 h.trans ⟨rfl,rfl,rfl,U2,fun k hk=>setRow_other w g k cs U0⟩
end Go.Proofs.YtflejelbdlelpaaGreat
namespace Go.Proofs.YtflejelbdlelpaaGreat
section
variable {P:Program} {ops:Array Oper} {md:Region.Mode} {S:Wo->Prop}
def ResS(P:Program)(S:Wo->Prop)(v:Value):Result Next->Prop
 |.ok (.value u) w'=>u=v/\S w'
 |.ok .skip w'=>v=undef/\S w'
 |.ok (.enter f args) w'=>Calls P f args w' (fun e w''=>e=.returned v/\S w'')
 |_=>False
def YieldsS(P:Program)(ops:Array Oper)(S:Wo->Prop)(o:Oper)(v:Value)(a:Act):Prop:=
 (Region.wanted o (yielded ops a.tmps)=true/\∀w,S w->ResS P S v ((execOp a.eval o).run P w))\/
 (Region.wanted o (yielded ops a.tmps)=false/\v=undef)
theorem YieldsS.of_same{o:Oper}{v:Value}{a b:Act}(f:YieldsS P ops S o v a)(c:execOp b.eval o=execOp a.eval o)(d:Region.wanted o (yielded ops b.tmps)=Region.wanted o (yielded ops a.tmps)):YieldsS P ops S o v b:=by unfold YieldsS at *;rw[c,d];exact f
def wpKeep(P:Program)(ops:Array Oper)(S:Wo->Prop)(Q:Act->Prop):List Oper->Act->Prop
 |[],a=>Q a
 |o :: rest,a=>∃v,YieldsS P ops S o v a/\wpKeep P ops S Q rest (a.put o.dst v)
def kOp(P:Program)(ops:Array Oper)(S:Wo->Prop)(i:Nat)(K:Act->Prop)(a:Act):Prop:=
 match ops[i]? with
 |none=>K a
 |some o=>∃v,YieldsS P ops S o v a/\K (a.put o.dst v)
theorem kOp_mono{i:Nat}{a:Act}{K f:Act->Prop}(h:∀a,K a->f a)(d:kOp P ops S i K a):kOp P ops S i f a:=by
 unfold kOp at *;split
 . rename_i ho;simp only[ho] at d;exact h _ d
 . rename_i o ho;simp only[ho] at d;obtain⟨v,b,c⟩:=d;exact⟨v,b,h _ c⟩
theorem wpOp_of_kOp{i:Nat}{a:Act}{w:Wo}{K:Act->Prop}{p:Act->Wo->Prop}{Q':Exit->Act->Wo->Prop}(h:∀ a w,S w->K a->p a w)(m:S w)(l:kOp P ops S i K a):wpOp P ops Q' i p a w:=by
 unfold kOp at l;unfold wpOp;split
 . rename_i ho;simp only[ho] at l;exact h _ _ m l
 . rename_i o ho;simp only [ho] at l;obtain ⟨v,k,d⟩:=l;rcases k with ⟨g,j⟩|⟨g,rfl⟩
   . simp only [g,if_true];refine .inl ?_;have b:=j w m;unfold Oper.wp;generalize (execOp a.eval o).run P w=r at *;cases r with
     |ok n w'=>
      cases n<;>simp only[ResS] at b<;>simp only[Oper.upon];case value u=>obtain⟨rfl,c⟩:=b;exact h _ _ c d
      case skip=>obtain⟨rfl,c⟩:=b;exact h _ _ c d
      case enter f args=>exact b.mono fun e w'' ⟨he,c⟩=>by subst he;exact h _ _ c d
     |halt x w'=>simp only[ResS] at b
   . simp only[g];exact h _ _ m d
theorem kOp_put{j:Nat}{k l:Oper}{v:Value}(p:ops[j]?=some l)(m:k.apart ops l=true)(n:∀cs b,k.op≠.select cs b)(o:∀cs b,l.op≠.select cs b){K:Act->Prop}{a:Act}(q:YieldsS P ops S k v a)(h:kOp P ops S j K (a.put k.dst v)):
 kOp P ops S j (fun a'=>YieldsS P ops S k v a'/\K (a'.put k.dst v)) a:=by obtain⟨c,f,d⟩:=Oper.apart_spec m;unfold kOp at *;simp only[p] at *;obtain⟨u,i,g⟩:=h;refine⟨u,i.of_same (execOp_put l o a k.dst v c).symm (wanted_put l a k.dst v c).symm,q.of_same (execOp_put k n a l.dst u d) (wanted_put k a l.dst u d),?_⟩;rw[<- Act.put_comm a v u f];exact g
def wpAnyK(P:Program)(md:Region.Mode)(ops:Array Oper)(S:Wo->Prop)(Q:Act->Prop):Nat->Array Bool->Act->Prop
 |0,listed,a=>Region.ready md ops listed=[]/\Q a
 |fuel + 1,listed,a=>
   (Region.ready md ops listed=[]->Q a)/\
   ∀i∈Region.ready md ops listed,kOp P ops S i (wpAnyK P md ops S Q fuel (listed.setIfInBounds i true)) a
theorem wpAny_of_keep{Q:Act->Prop}{Q':Exit->Act->Wo->Prop}(b:∀a w,S w->Q a->Q' .normal a w):∀(fuel:Nat)(listed:Array Bool)(a:Act)(w:Wo),S w->
 wpAnyK P md ops S Q fuel listed a->wpAny P md ops Q' fuel listed a w
 |0,_,_,_,hS,h=>⟨h.1,b _ _ hS h.2⟩
 |fuel+1,_,_,_,hS,h=>⟨fun h0=>b _ _ hS (h.1 h0),fun i hi=>wpOp_of_kOp (fun a' w' hs=>wpAny_of_keep b fuel _ a' w' hs) hS (h.2 i hi)⟩
theorem wpAnyK_first{Q:Act->Prop}{i:Nat}{y:Oper}{v:Value}(z:ops[i]?=some y)(x:∀ (j:Nat)(o:Oper) cs b,ops[j]?=some o->o.op≠.select cs b):
 ∀(fuel:Nat)(listed:Array Bool)(a:Act),
  (∀j oj,ops[j]?=some oj->j≠i->listed.getD j true=false->(∀e∈oj.after,Region.binds md e=true->e.on≠i)->y.apart ops oj=true)->
  i∈Region.ready md ops listed->YieldsS P ops S y v a->
  wpAnyK P md ops S Q fuel (listed.setIfInBounds i true) (a.put y.dst v)->wpAnyK P md ops S Q (fuel+1) listed a:=by
 intro fuel;induction fuel with
 |zero=>
  intro listed a _ n s H;refine⟨fun h=>(by rw[h] at n;cases n),fun j hj=>?_⟩;by_cases c:j=i
  . subst c;unfold kOp;simp only[z];exact⟨v,s,H⟩
  . have:=ready_mono hj c;rw[H.1] at this;cases this
 | succ fuel ih =>
  intro listed a d n s H;refine⟨fun h=>(by rw[h] at n;cases n),fun j hj=>?_⟩;by_cases c:j=i
  . subst c;unfold kOp;simp only[z];exact⟨v,s,H⟩
  . have l := H.2 j (ready_mono hj c);obtain ⟨g,oj,m,p⟩:=mem_ready.1 hj;have r:∀ e∈oj.after,Region.binds md e=true->e.on≠i:=fun e he hb heq=>by
     have l:=p e he hb;have t:=(mem_ready.1 n).1;rw[heq] at l;rcases Nat.lt_or_ge i listed.size with h'|h'
     . simp[h'] at t l;rw[t] at l;cases l
     . simp[Array.getElem?_eq_none h'] at l
    have u:=kOp_put m (d j oj m c g r) (fun cs b=>x i y cs b z) (fun cs b=>x j oj cs b m) s l
    have f:∀k ok,ops[k]?=some ok->k≠i->(listed.setIfInBounds j true).getD k true=false->
     (∀e∈ok.after,Region.binds md e=true->e.on≠i)->y.apart ops ok=true:=fun k ok hk hki hun hno=>by
     refine d k ok hk hki ?_ hno
     by_cases q:j=k
     . subst q;exact g
     . rw[getD_set_ne true q] at hun;exact hun
    refine kOp_mono (fun a' h3=>ih (listed.setIfInBounds j true) a' f (ready_mono n (Ne.symm c)) h3.1 ?_) u;rw[Array.setIfInBounds_comm _ _ c];exact h3.2
theorem wpAnyK_lex{Q:Act->Prop}(i:Region.noSelect ops=true):∀ (l:List Oper)(k:Nat)(listed:Array Bool)(a:Act),(∀ j,l[j]?=ops[k+j]?) ->
 Region.lexFrom md ops l.length k listed=true->wpKeep P ops S Q l a->wpAnyK P md ops S Q l.length listed a
 |[],_,_,_,_,hB,h=>⟨by simpa[Region.lexFrom] using hB,h⟩
 | o :: l,k,listed,a,hl,hB,h => by
   have h0:ops[k]?=some o:=by simpa using(hl 0).symm
   simp only[List.length_cons,Region.lexFrom,Bool.and_eq_true] at hB
   obtain⟨⟨f,d⟩,b⟩:=hB
   obtain⟨v,g,c⟩:=h
   exact wpAnyK_first h0 (Region.noSelect_spec i) l.length listed a (Region.free_spec h0 d) (by simpa using f) g
    (wpAnyK_lex i l (k+1) _ _ (fun j=>by have:=hl (j+1);simpa[Nat.add_assoc,Nat.add_comm 1 j] using this) b c)
theorem qaD{i:Nat}{Q:Exit->Act->Wo->Prop}{a:Act}{w:Wo}{l:List Oper}(S:Wo->Prop)(g:P.follows .mixedOrders=true)(d:Region.lexB .any l.toArray=true)(f:S w.drew)(h:wpKeep P l.toArray S (fun a'=>∀w',S w'->Q .normal a' w') l a):(Code.region i l.toArray true).wp P Q a w:=by simp only[Region.lexB,Bool.and_eq_true] at d;refine wp_region_any g ?_;have b:=wpAnyK_lex (md:=.any) (S:=S) d.1 l 0 (Array.replicate l.toArray.size false) a U2 (by simpa using d.2) h;have c:=wpAny_of_keep (Q':=Q) (fun a w hs hq=>hq w hs) _ _ a { w with drawn:=w.drawn+1 } f b;simpa using c
def wpAnyKL(P:Program)(md:Region.Mode)(ops:Array Oper)(S:Wo->Prop)(n:Nat)(L:Array Bool->Act->Prop):Nat->Array Bool->Act->Prop
 |0,listed,a=>L listed a
 |f + 1,listed,a=>
   Region.ready md ops listed≠[]/\∀i∈Region.ready md ops listed,i<n/\kOp P ops S i (wpAnyKL P md ops S n L f (listed.setIfInBounds i true)) a
theorem qeD{n g:Nat}{L:Array Bool->Act->Prop}{Q':Exit->Act->Wo->Prop}(b:∀ listed a w,S w->L listed a->wpAny P md ops Q' g listed a w):
 ∀(f:Nat)(listed:Array Bool)(a:Act)(w:Wo),S w->wpAnyKL P md ops S n L f listed a->wpAny P md ops Q' (f+g) listed a w
 |0,listed,a,w,hS,h=>by rw[Nat.zero_add];exact b _ _ _ hS h
 |f + 1,listed,a,w,hS,h=>by
   rw[show f+1+g=(f+g)+1 by omega]
   exact⟨fun h0=>absurd h0 h.1,fun i hi=>wpOp_of_kOp (fun a' w' hs h'=>qeD b f _ a' w' hs h') hS (h.2 i hi).2⟩
theorem wpAnyKL_first{n i:Nat}{C:Oper}{v:Value}{L:Array Bool->Act->Prop}(E:ops[i]?=some C)(A:∀ (j:Nat)(o:Oper) cs b,ops[j]?=some o->o.op≠.select cs b)(K:Region.sinkB md ops n=true)(I:Region.chainB md ops n=true)(J:n<ops.size)(D:i<n)(B:∀ listed a,L listed a->∀ j∈Region.ready md ops listed,n<=j):
 ∀(f:Nat)(listed:Array Bool)(a:Act),HeadInv md ops n listed->
  (∀j oj,ops[j]?=some oj->j≠i->listed.getD j true=false->(∀e∈oj.after,Region.binds md e=true->e.on≠i)->C.apart ops oj=true)->
  i∈Region.ready md ops listed->YieldsS P ops S C v a->
  wpAnyKL P md ops S n L f (listed.setIfInBounds i true) (a.put C.dst v)->wpAnyKL P md ops S n L (f+1) listed a:=by
 intro f;induction f with
 |zero=>
  intro listed a inv _ q y H;have d:=(mem_ready.1 q).1;refine⟨fun h=>(by rw[h] at q;cases q),fun j hj=>?_⟩;have m:j<n:=by
   rcases Nat.lt_or_ge j n with h|h
   . exact h
   . exact absurd hj (tail_waits K I J inv _ i rfl D d j h)
  refine⟨m,?_⟩;by_cases c:j=i
  . subst c;unfold kOp;simp only[E];exact⟨v,y,H⟩
  . have:=B _ _ H j (ready_mono hj c);omega
 | succ f ih =>
  intro listed a inv g q y H;have d:=(mem_ready.1 q).1;refine⟨fun h=>(by rw[h] at q;cases q),fun j hj=>?_⟩;have m:j<n:=by
   rcases Nat.lt_or_ge j n with h|h
   . exact h
   . exact absurd hj (tail_waits K I J inv _ i rfl D d j h)
  refine⟨m,?_⟩;by_cases c:j=i
  . subst c;unfold kOp;simp only[E];exact⟨v,y,H⟩
  . have x := (H.2 j (ready_mono hj c)).2;obtain ⟨p,oj,r,s⟩:=mem_ready.1 hj;(have u:∀ e∈oj.after,Region.binds md e=true->e.on≠i:=fun e he hb heq=>by have x:=s e he hb;rw [heq,getD_both d] at x;cases x);have z:=kOp_put r (g j oj r c p u) (fun cs b=>A i C cs b E) (fun cs b=>A j oj cs b r) y x
    have l:∀k ok,ops[k]?=some ok->k≠i->(listed.setIfInBounds j true).getD k true=false->
     (∀e∈ok.after,Region.binds md e=true->e.on≠i)->C.apart ops ok=true:=fun k ok hk hki d hno=>by
     refine g k ok hk hki ?_ hno
     by_cases t:j=k
     . subst t;exact p
     . rw[getD_set_ne true t] at d;exact d
    refine kOp_mono (fun a' h3=>ih (listed.setIfInBounds j true) a' (inv.set hj m) l (ready_mono q (Ne.symm c)) h3.1 ?_) z;rw[Array.setIfInBounds_comm _ _ c];exact h3.2
theorem wpAnyKL_lex{n g:Nat}{s:Act->Prop}(r:Region.noSelect ops=true)(x:Region.sinkB md ops n=true)(t:Region.chainB md ops n=true)(u:n<ops.size):
 ∀(l:List Oper)(k:Nat)(listed:Array Bool)(a:Act),(∀j,j<l.length->l[j]?=ops[k+j]?)->k+l.length=n->HeadInv md ops n listed->
 Region.lexHead md ops g l.length k listed=true->wpKeep P ops S s l a->
 wpAnyKL P md ops S n (fun listed' a'=>Region.seqB md ops g n listed'=true/\s a') l.length listed a
 |[],k,listed,a,_,hk,_,hB,h=>by
   have:k=n:=by simpa using hk
   subst this
   exact⟨by simpa[Region.lexHead] using hB,h⟩
 | o :: l,k,listed,a,hl,hk,inv,hB,h => by
   have f:ops[k]?=some o:=by simpa using(hl 0 U2).symm
   simp only[List.length_cons,Region.lexHead,Bool.and_eq_true] at hB
   obtain⟨⟨p,m⟩,d⟩:=hB
   have b:k<n:=by simp only[List.length_cons] at hk;omega
   have c:k∈Region.ready md ops listed:=by simpa using p
   obtain⟨v,q,i⟩:=h
   exact wpAnyKL_first f (Region.noSelect_spec r) x t u b (fun listed' a' hL=>seqB_ready hL.1) l.length listed a inv (Region.free_spec f m) c q
    (wpAnyKL_lex r x t u l (k+1) _ _ (fun j hj=>by have:=hl (j+1) so;simpa[Nat.add_assoc,Nat.add_comm 1 j] using this) (by simp only[List.length_cons] at hk;omega) (inv.set c b) d i)
theorem qaI{v:Nat}{Q:Exit->Act->Wo->Prop}{a:Act}{w:Wo}{l:List Oper}(n:Nat)(S:Wo->Prop)(u:P.follows .mixedOrders=true)(r:Region.lexTailB .any l.toArray n=true)(s:S w.drew)(h:wpKeep P l.toArray S (fun a'=>∀w',S w'->wpList P l.toArray Q (l.drop n) a' w') (l.take n) a):(Code.region v l.toArray true).wp P Q a w:=by
 simp only[Region.lexTailB,Bool.and_eq_true,decide_eq_true_eq] at r;obtain⟨⟨⟨⟨f,m⟩,q⟩,o⟩,d⟩:=r;have p:n<l.length:=by simpa using m
 have b:(l.take n).length=n:=so;have c:(l.drop n).length=l.toArray.size-n:=U2
 have i:HeadInv .any l.toArray n (Array.replicate l.toArray.size false):=
  ⟨U2,fun j oj _ hl=>(by rw[getD_replicate_false] at hl;cases hl),fun t _ ht=>getD_in (by simpa using ht) (getD_replicate_false _ _)⟩
 have H:=wpAnyKL_lex (md:=.any) (S:=S) (g:=l.toArray.size-n) f q o m (l.take n) 0 _ a (fun j hj=>by
  have k:j<n:=by rw[b] at hj;exact hj
  simp[k]) (by simpa using b) i (by rw[b];exact d) h
 refine wp_region_any u ?_
 have:=qeD (Q':=Q) (g:=l.toArray.size-n) (fun listed a' w' hs' hL=>by
  have:=wpAny_of_seq (md:=.any) (Q':=Q) (l.drop n) n listed a' w' (fun j=>by simp[List.getElem?_drop]) (by rw[c];exact hL.1) (hL.2 w' hs')
  rwa [c] at this) _ _ a { w with drawn:=w.drawn+1 } s H
 rw[b,show n+(l.toArray.size-n)=l.toArray.size by omega] at this;exact this
theorem qaE{Q:Act->Prop}{a:Act}(h:Q a):wpKeep P ops S Q [] a:=h
theorem qaJ{Q:Act->Prop}{a:Act}{o:Oper}{rest:List Oper}{v:Value}(b:o.guard=none)(c:∀w,S w->(execOp a.eval o).run P w=.ok (.value v) w)(h:wpKeep P ops S Q rest (a.put o.dst v)):wpKeep P ops S Q (o :: rest) a:=
 ⟨v,.inl ⟨by simp[Region.wanted,b],fun w hS=>by rw[c w hS];exact⟨rfl,hS⟩⟩,h⟩
theorem qaO{Q:Act->Prop}{a:Act}{o:Oper}{rest:List Oper}{v:Value}{f:FuncId}{args:Array Value}(c:o.guard=none)(d:∀w,S w->(execOp a.eval o).run P w=.ok (.enter f args) w)(b:∀w,S w->Calls P f args w fun e w'=>e=.returned v/\S w')(h:wpKeep P ops S Q rest (a.put o.dst v)):wpKeep P ops S Q (o :: rest) a:=
 ⟨v,.inl ⟨by simp[Region.wanted,c],fun w hS=>by rw[d w hS];exact b w hS⟩,h⟩
theorem qbD{Q:Act->Prop}{a:Act}{o:Oper}{rest:List Oper}{v:Value}(b:Region.wanted o (yielded ops a.tmps)=true)(c:∀w,S w->(execOp a.eval o).run P w=.ok (.value v) w)(h:wpKeep P ops S Q rest (a.put o.dst v)):wpKeep P ops S Q (o :: rest) a:=
 ⟨v,.inl ⟨b,fun w hS=>by rw[c w hS];exact⟨rfl,hS⟩⟩,h⟩
theorem qcG{Q:Act->Prop}{a:Act}{o:Oper}{rest:List Oper}{v:Value}{f:FuncId}{args:Array Value}(c:Region.wanted o (yielded ops a.tmps)=true)(d:∀w,S w->(execOp a.eval o).run P w=.ok (.enter f args) w)(b:∀w,S w->Calls P f args w fun e w'=>e=.returned v/\S w')(h:wpKeep P ops S Q rest (a.put o.dst v)):wpKeep P ops S Q (o :: rest) a:=
 ⟨v,.inl ⟨c,fun w hS=>by rw[d w hS];exact b w hS⟩,h⟩
theorem qbI{Q:Act->Prop}{a:Act}{o:Oper}{rest:List Oper}(b:Region.wanted o (yielded ops a.tmps)=false)(h:wpKeep P ops S Q rest (a.put o.dst undef)):wpKeep P ops S Q (o :: rest) a:=
 ⟨undef,.inr ⟨b,rfl⟩,h⟩
end
section
variable {P:Program} {ops:Array Oper} {md:Region.Mode} {S:Wo->Prop} {Q:Exit->Act->Wo->Prop} {n g:Nat}
def wpAnyHL(P:Program)(md:Region.Mode)(ops:Array Oper)(Q:Exit->Act->Wo->Prop)(S:Wo->Prop)(n:Nat)(L:Array Bool->Act->Wo->Prop):Nat->Array Bool->Act->Wo->Prop
 |0,listed,a,w=>L listed a w
 |f + 1,listed,a,w=>
   Region.ready md ops listed≠[]/\∀i∈Region.ready md ops listed,i<n/\wpOp P ops Q i (fun a' w'=>S w'/\wpAnyHL P md ops Q S n L f (listed.setIfInBounds i true) a' w') a w
theorem wpAny_of_HL{L:Array Bool->Act->Wo->Prop}(b:∀ listed a w,L listed a w->wpAny P md ops Q g listed a w):
 ∀(f:Nat)(listed:Array Bool)(a:Act)(w:Wo),wpAnyHL P md ops Q S n L f listed a w->wpAny P md ops Q (f+g) listed a w
 |0,listed,a,w,h=>by rw[Nat.zero_add];exact b _ _ _ h
 |f + 1,listed,a,w,h=>by
   rw[show f+1+g=(f+g)+1 by omega]
   exact⟨fun h0=>absurd h0 h.1,fun i hi=>wpOp_mono (fun a' w' h'=>wpAny_of_HL b f _ a' w' h'.2) (h.2 i hi).2⟩
theorem wpAnyHL_first{i:Nat}{E:Oper}{v:Value}{L:Array Bool->Act->Wo->Prop}(J:ops[i]?=some E)(C:∀ (j:Nat)(o:Oper) cs b,ops[j]?=some o->o.op≠.select cs b)(N:Region.sinkB md ops n=true)(K:Region.chainB md ops n=true)(M:n<ops.size)(I:i<n)(D:∀ listed a w,L listed a w->∀ j∈Region.ready md ops listed,n<=j)(O:∀ c a w,Q (.panic c) (a.put E.dst v) w->Q (.panic c) a w):
 ∀(f:Nat)(listed:Array Bool)(a:Act)(w:Wo),HeadInv md ops n listed->
  (∀j oj,ops[j]?=some oj->j≠i->listed.getD j true=false->(∀e∈oj.after,Region.binds md e=true->e.on≠i)->E.apart ops oj=true)->
  i∈Region.ready md ops listed->YieldsIf P ops S E v a->S w->
  wpAnyHL P md ops Q S n L f (listed.setIfInBounds i true) (a.put E.dst v) w->wpAnyHL P md ops Q S n L (f+1) listed a w:=by
 intro f;induction f with
 |zero=>
  intro listed a w inv _ r A t H;have g:=(mem_ready.1 r).1;refine⟨fun h=>(by rw[h] at r;cases r),fun j hj=>?_⟩;have p:j<n:=by
   rcases Nat.lt_or_ge j n with h|h
   . exact h
   . exact absurd hj (tail_waits N K M inv _ i rfl I g j h)
  refine⟨p,?_⟩;by_cases d:j=i
  . subst d;exact A.wpOp J t ⟨t,H⟩
  . have:=D _ _ _ H j (ready_mono hj d);omega
 | succ f ih =>
  intro listed a w inv l r A t H;have g:=(mem_ready.1 r).1;refine⟨fun h=>(by rw[h] at r;cases r),fun j hj=>?_⟩;have p:j<n:=by
   rcases Nat.lt_or_ge j n with h|h
   . exact h
   . exact absurd hj (tail_waits N K M inv _ i rfl I g j h)
  refine⟨p,?_⟩;by_cases d:j=i
  . subst d;exact A.wpOp J t ⟨t,H⟩
  . have z := (H.2 j (ready_mono hj d)).2;obtain ⟨q,oj,s,u⟩:=mem_ready.1 hj;(have y:∀ e∈oj.after,Region.binds md e=true->e.on≠i:=fun e he hb heq=>by have z:=u e he hb;rw [heq,getD_both g] at z;cases z);have B:=wpOp_putIf s (l j oj s d q y) (fun cs b=>C i E cs b J) (fun cs b=>C j oj cs b s) O A z
    have m:∀k ok,ops[k]?=some ok->k≠i->(listed.setIfInBounds j true).getD k true=false->
     (∀e∈ok.after,Region.binds md e=true->e.on≠i)->E.apart ops ok=true:=fun k ok hk hki g hno=>by
     refine l k ok hk hki ?_ hno
     by_cases x:j=k
     . subst x;exact q
     . rw[getD_set_ne true x] at g;exact g
    refine wpOp_mono (fun a' w' h3=>⟨h3.2.1,ih (listed.setIfInBounds j true) a' w' (inv.set hj p) m (ready_mono r (Ne.symm d)) h3.1 h3.2.1 ?_⟩) B;rw[Array.setIfInBounds_comm _ _ d];exact h3.2.2
theorem qaX{o:Oper}(b:o.guard=none)(t:Nat->Option Bool):Region.wanted o t=true:=by simp[Region.wanted,b]
def wpMix(P:Program)(S:Wo->Prop)(K:Act->Wo->Prop):List (Bool × Oper)->Act->Wo->Prop
 |[],a,w=>K a w
 |(true,o):: r,a,w=>∃v,(o.guard=none/\∀w,S w->(execOp a.eval o).run P w=.ok (.value v) w)/\wpMix P S K r (a.put o.dst v) w
 | (false,o) :: r,a,w => o.guard = none /\ ((∃ f args,(execOp a.eval o).run P w = .ok (.enter f args) w /\ Calls P f args w fun e w' => ∃ u,e = .returned u /\ S w' /\ wpMix P S K r (a.put o.dst u) w') \/
     (∃v w',(execOp a.eval o).run P w=.ok (.value v) w'/\S w'/\wpMix P S K r (a.put o.dst v) w'))
theorem qeJ{K:Act->Wo->Prop}{a:Act}{w:Wo}(h:K a w):wpMix P S K [] a w:=h
theorem qcH{K:Act->Wo->Prop}{o:Oper}{r:List (Bool × Oper)}{v:Value}{a:Act}{w:Wo}(b:o.guard=none)(c:∀w,S w->(execOp a.eval o).run P w=.ok (.value v) w)(h:wpMix P S K r (a.put o.dst v) w):wpMix P S K ((true,o):: r) a w:=⟨v,⟨b,c⟩,h⟩
theorem qcS{K:Act->Wo->Prop}{a:Act}{w:Wo}{o:Oper}{r:List (Bool × Oper)}(j:o.guard=none)(f:TypeId)(x:Operand)(l:o.op=.load f x)(b c:Nat)(p:a.eval x=.pointer (some (zA b c)))(cs:List Value)(d:TypeDesc)(i:∀w,S w->w.rangeAt b c cs)(m:P.underlying f=some d)(hd:d.isRow=true)(k:(P.info? f).map (·.size)=some cs.length)(h:wpMix P S K r (a.put o.dst (.agg cs.toArray)) w):wpMix P S K ((true,o):: r) a w:=by refine qcH j (fun W hW=>?_) h;unfold execOp;simp only[l,p,Instr.loadAt,Instr.sureAddr,Sem.run_bind,Sem.run_pure,Result.andThen_ok,run_loadVar_mid W b c f cs d (i W hW) m hd k]
theorem qcE{K:Act->Wo->Prop}{o:Oper}{r:List (Bool × Oper)}{f:FuncId}{args:Array Value}{a:Act}{w:Wo}(b:o.guard=none)(c:(execOp a.eval o).run P w=.ok (.enter f args) w)(h:Calls P f args w fun e w'=>∃u,e=.returned u/\S w'/\wpMix P S K r (a.put o.dst u) w'):wpMix P S K ((false,o):: r) a w:=⟨b,.inl ⟨f,args,c,h⟩⟩
def Region.mixB(md:Region.Mode)(ops:Array Oper)(n g:Nat):List (Bool × Nat)->Array Bool->Bool
 |[],listed=>Region.seqB md ops g n listed
 |(true,k):: r,listed=>(Region.ready md ops listed).contains k && Region.free md ops listed k && decide (k<n) && Region.mixB md ops n g r (listed.setIfInBounds k true)
 |(false,k):: r,listed=>decide (Region.ready md ops listed=[k]) && decide (k<n) && Region.mixB md ops n g r (listed.setIfInBounds k true)
def Region.mixTailB(md:Region.Mode)(ops:Array Oper)(n:Nat)(ord:List (Bool × Nat)):Bool:=
 Region.noSelect ops && decide (n<ops.size) && Region.sinkB md ops n && Region.chainB md ops n && decide (ord.length=n) && Region.mixB md ops n (ops.size-n) ord (Array.replicate ops.size false)
theorem qdG{l:List Oper}{d:Oper}{M:Act->Wo->Prop}(H:ops=l.toArray)(E:Region.noSelect ops=true)(L:Region.sinkB md ops n=true)(K:Region.chainB md ops n=true)(I:n<ops.size)(J:∀ c (a:Act) (dst:Option Tmp) v w,Q (.panic c) (a.put dst v) w->Q (.panic c) a w):
 ∀(ord:List (Bool × Nat))(listed:Array Bool)(a:Act)(w:Wo),HeadInv md ops n listed->Region.mixB md ops n g ord listed=true->S w->wpMix P S M (ord.map fun x=>(x.1,l.getD x.2 d)) a w->
  wpAnyHL P md ops Q S n (fun listed' a' w'=>Region.seqB md ops g n listed'=true/\M a' w') ord.length listed a w
 |[],listed,a,w,_,hB,_,h=>⟨hB,h⟩
 | (true,k) :: r,listed,a,w,inv,hB,hS,h => by
   simp only[Region.mixB,Bool.and_eq_true,decide_eq_true_eq] at hB
   obtain⟨⟨⟨hr,hf⟩,hkn⟩,hB'⟩:=hB
   have s:k∈Region.ready md ops listed:=by simpa using hr
   obtain⟨v,⟨z,D⟩,C⟩:=h
   have t:ops[k]?=some (l.getD k d):=by
    have p:k<l.length:=by have:=I;rw[H] at this;simp at this;omega
    rw[H]
    simp[List.getD,p]
   exact wpAnyHL_first t (Region.noSelect_spec E) L K I hkn (fun listed' a' w' hL=>seqB_ready hL.1) (fun c a w=>J c a _ v w) r.length listed a w inv (Region.free_spec t hf) s (.inl ⟨qaX z _,D⟩) hS
    (qdG H E L K I J r _ _ _ (inv.set s hkn) hB' hS C)
 | (false,k) :: r,listed,a,w,inv,hB,hS,h => by
   simp only[Region.mixB,Bool.and_eq_true,decide_eq_true_eq] at hB
   obtain⟨⟨hr,hkn⟩,hB'⟩:=hB
   obtain⟨z,o⟩:=h
   have t:ops[k]?=some (l.getD k d):=by
    have p:k<l.length:=by have:=I;rw[H] at this;simp at this;omega
    rw[H]
    simp[List.getD,p]
   refine⟨fun h0=>(by rw[hr] at h0;cases h0),fun j hj=>?_⟩
   have q:=hj
   rw[hr] at hj
   have A:j=k:=by simpa using hj
   subst A
   refine⟨hkn,?_⟩
   unfold wpOp
   simp only[t]
   rw[if_pos (qaX z _)]
   refine .inl ?_
   unfold Oper.wp
   rcases o with⟨f,B,i,m⟩|⟨v,w',i,b,y⟩
   . rw [i]
     exact m.mono fun e w' ⟨u,he,b,y⟩=>by
      subst he
      exact⟨b,qdG H E L K I J r _ _ _ (inv.set q hkn) hB' b y⟩
   . rw[i]
     exact⟨b,qdG H E L K I J r _ _ _ (inv.set q hkn) hB' b y⟩
theorem qbM{z:Nat}{a:Act}{w:Wo}{l:List Oper}(n:Nat)(S:Wo->Prop)(q:List (Bool × Nat))(d:Oper)(y:P.follows .mixedOrders=true)(r:Region.mixTailB .any l.toArray n q=true)(s:∀c (a:Act) (dst:Option Tmp) v w,Q (.panic c) (a.put dst v) w->Q (.panic c) a w)(u:S w.drew)(h:wpMix P S (wpList P l.toArray Q (l.drop n)) (q.map fun x=>(x.1,l.getD x.2 d)) a w.drew):(Code.region z l.toArray true).wp P Q a w:=by
 simp only[Region.mixTailB,Bool.and_eq_true,decide_eq_true_eq] at r;obtain⟨⟨⟨⟨⟨f,o⟩,p⟩,m⟩,k⟩,b⟩:=r
 have i:HeadInv .any l.toArray n (Array.replicate l.toArray.size false):=
  ⟨U2,fun j oj _ hl=>(by rw[getD_replicate_false] at hl;cases hl),fun t _ ht=>getD_in (by simpa using ht) (getD_replicate_false _ _)⟩
 have H:=qdG (P:=P) (Q:=Q) (md:=.any) (g:=l.toArray.size-n) rfl f p m o s q _ a w.drew i b u h;refine wp_region_any y ?_
 have:=wpAny_of_HL (g:=l.toArray.size-n) (fun listed' a' w' hL=>by
  have:=wpAny_of_seq (P:=P) (md:=.any) (Q':=Q) (l.drop n) n listed' a' w' (fun j=>by simp[List.getElem?_drop]) (by simpa using hL.1) hL.2
  simpa using this) _ _ a w.drew H
 rw[k,show n+(l.toArray.size-n)=l.toArray.size by omega] at this;exact this
end
section
variable {P:Program} {ops:Array Oper} {md:Region.Mode} {S:Wo->Prop} {Q:Exit->Act->Wo->Prop} {n g s:Nat}
def wpAnyHF(P:Program)(md:Region.Mode)(ops:Array Oper)(Q:Exit->Act->Wo->Prop)(S:Wo->Prop)(n s:Nat)(L:Array Bool->Act->Wo->Prop):Nat->Array Bool->Act->Wo->Prop
 |0,listed,a,w=>L listed a w
 |f + 1,listed,a,w=>
   Region.ready md ops listed≠[]/\∀i∈Region.ready md ops listed,i<n/\wpOp P ops Q i (fun a' w'=>((listed.setIfInBounds i true).getD s false=false->S w')/\wpAnyHF P md ops Q S n s L f (listed.setIfInBounds i true) a' w') a w
theorem qeK{L:Array Bool->Act->Wo->Prop}(b:∀ listed a w,L listed a w->wpAny P md ops Q g listed a w):
 ∀(f:Nat)(listed:Array Bool)(a:Act)(w:Wo),wpAnyHF P md ops Q S n s L f listed a w->wpAny P md ops Q (f+g) listed a w
 |0,listed,a,w,h=>by rw[Nat.zero_add];exact b _ _ _ h
 |f + 1,listed,a,w,h=>by
   rw[show f+1+g=(f+g)+1 by omega]
   exact⟨fun h0=>absurd h0 h.1,fun i hi=>wpOp_mono (fun a' w' h'=>qeK b f _ a' w' h'.2) (h.2 i hi).2⟩
theorem qaQ{b:Array Bool}{i k:Nat}(h:i≠k):(b.setIfInBounds i true).getD k false=b.getD k false:=getD_set_ne false h
theorem qbR{i:Nat}{oi:Oper}{v:Value}{L:Array Bool->Act->Wo->Prop}(hi:ops[i]?=some oi)(X:∀ (j:Nat)(o:Oper) cs b,ops[j]?=some o->o.op≠.select cs b)(hs:Region.sinkB md ops n=true)(hc:Region.chainB md ops n=true)(hn:n<ops.size)(ab:i<n)(aa:i≠s)(Z:∀ listed a w,L listed a w->∀ j∈Region.ready md ops listed,n<=j)(hQ:∀ c a w,Q (.panic c) (a.put oi.dst v) w->Q (.panic c) a w)(T:Wo->Prop)(hT:(∀ w,T w)\/((∀ w,S w->T w)/\(Region.waitsFor md ops s i=true\/n<=s))):
 ∀(f:Nat)(listed:Array Bool)(a:Act)(w:Wo),HeadInv md ops n listed->
  (∀j oj,ops[j]?=some oj->j≠i->listed.getD j true=false->(∀e∈oj.after,Region.binds md e=true->e.on≠i)->oi.apart ops oj=true)->
  i∈Region.ready md ops listed->YieldsIf P ops T oi v a->T w->(listed.getD s false=false->S w)->
  wpAnyHF P md ops Q S n s L f (listed.setIfInBounds i true) (a.put oi.dst v) w->wpAnyHF P md ops Q S n s L (f+1) listed a w:=by
 intro f;induction f with
 |zero=>
  intro listed a w inv _ u M z N H;have g:=(mem_ready.1 u).1;refine⟨fun h=>(by rw[h] at u;cases u),fun j hj=>?_⟩;have m:j<n:=by
   rcases Nat.lt_or_ge j n with h|h
   . exact h
   . exact absurd hj (tail_waits hs hc hn inv _ i rfl ab g j h)
  refine⟨m,?_⟩;by_cases d:j=i
  . subst d;exact M.wpOp hi z ⟨fun h=>N (by rwa [qaQ aa] at h),H⟩
  . have:=Z _ _ _ H j (ready_mono hj d);omega
 | succ f ih =>
  intro listed a w inv l u M z N H;have g:=(mem_ready.1 u).1;refine⟨fun h=>(by rw[h] at u;cases u),fun j hj=>?_⟩;have m:j<n:=by
   rcases Nat.lt_or_ge j n with h|h
   . exact h
   . exact absurd hj (tail_waits hs hc hn inv _ i rfl ab g j h)
  refine⟨m,?_⟩;by_cases d:j=i
  . subst d;exact M.wpOp hi z ⟨fun h=>N (by rwa [qaQ aa] at h),H⟩
  . have K := (H.2 j (ready_mono hj d)).2;obtain ⟨r,oj,q,D⟩:=mem_ready.1 hj;(have t:∀ e∈oj.after,Region.binds md e=true->e.on≠i:=fun e I E heq=>by have K:=D e I E;rw [heq,getD_both g] at K;cases K);have V:=wpOp_putIf q (l j oj q d r t) (fun cs b=>X i oi cs b hi) (fun cs b=>X j oj cs b q) hQ M K
    have p:∀k ok,ops[k]?=some ok->k≠i->(listed.setIfInBounds j true).getD k true=false->
     (∀e∈ok.after,Region.binds md e=true->e.on≠i)->oi.apart ops ok=true:=fun k ok hk hki g hno=>by
     refine l k ok hk hki ?_ hno
     by_cases J:j=k
     . subst J;exact r
     . rw[getD_set_ne true J] at g;exact g
    (have A:((listed.setIfInBounds i true).setIfInBounds j true).getD s false=(listed.setIfInBounds j true).getD s false:=by rw [Array.setIfInBounds_comm _ _ (Ne.symm d),qaQ aa]);refine wpOp_mono (fun a' w' h3=>?_) V;have y:(listed.setIfInBounds j true).getD s false=false->S w':=fun h=>h3.2.1 (by rw [A];exact h);have O:T w':=by
     rcases hT with hT|⟨hT,hw⟩
     . exact hT w'
     . refine hT w' (y ?_);rcases hw with hw|hw;rotate_left
       . have x:=inv.set hj m;rcases Nat.lt_or_ge s ops.size with h|h
         . exact getD_both (x.tail s hw h)
         . (have W:(listed.setIfInBounds j true).size<=s:=by rw[x.size];exact h);simp[Array.getD_eq_getD_getElem?,Array.getElem?_eq_none W]
       (have R:j≠s:=fun e=>by subst e;obtain⟨U,C,e,I,E,B⟩:=Region.waitsFor_spec hw;have:U=oj:=Option.some.inj (C.symm.trans q);subst this;exact t e I E B);rw[qaQ R];cases hls:listed.getD s false with
       |false=>rfl
       |true=>obtain⟨U,C,e,I,E,B⟩:=Region.waitsFor_spec hw;have:=inv.closed s U C hls e I E;rw[B,getD_both g] at this;cases this
    refine⟨y,ih (listed.setIfInBounds j true) a' w' (inv.set hj m) p (ready_mono u (Ne.symm d)) h3.1 O y ?_⟩;rw[Array.setIfInBounds_comm _ _ d];exact h3.2.2
def wpMixF(P:Program)(S:Wo->Prop)(K:Act->Wo->Prop):List (Nat × Oper)->Act->Wo->Prop
 |[],a,w=>K a w
 |(0,o):: r,a,w=>∃v,(o.guard=none/\∀w,S w->(execOp a.eval o).run P w=.ok (.value v) w)/\wpMixF P S K r (a.put o.dst v) w
 |(1,o):: r,a,w=>∃v,(o.guard=none/\∀w,(execOp a.eval o).run P w=.ok (.value v) w)/\wpMixF P S K r (a.put o.dst v) w
 | (2,o) :: r,a,w => o.guard = none /\ ((∃ f args,(execOp a.eval o).run P w = .ok (.enter f args) w /\ Calls P f args w fun e w' => ∃ u,e = .returned u /\ S w' /\ wpMixF P S K r (a.put o.dst u) w') \/
     (∃v w',(execOp a.eval o).run P w=.ok (.value v) w'/\S w'/\wpMixF P S K r (a.put o.dst v) w'))
 |(_,o):: r,a,w=>o.guard=none/\∃w',(execOp a.eval o).run P w=.ok .skip w'/\wpMixF P S K r (a.put o.dst undef) w'
section
variable {K:Act->Wo->Prop} {o:Oper} {r:List (Nat × Oper)} {a:Act} {w:Wo}
theorem qbH(h:K a w):wpMixF P S K [] a w:=h
theorem qbF{v:Value}(b:o.guard=none)(c:∀w,S w->(execOp a.eval o).run P w=.ok (.value v) w)(h:wpMixF P S K r (a.put o.dst v) w):wpMixF P S K ((0,o):: r) a w:=⟨v,⟨b,c⟩,h⟩
theorem qaM{v:Value}(b:o.guard=none)(c:∀w,(execOp a.eval o).run P w=.ok (.value v) w)(h:wpMixF P S K r (a.put o.dst v) w):wpMixF P S K ((1,o):: r) a w:=⟨v,⟨b,c⟩,h⟩
theorem qaT(j:o.guard=none)(f:TypeId)(x:Operand)(l:o.op=.load f x)(b c:Nat)(p:a.eval x=.pointer (some (zA b c)))(cs:List Value)(d:TypeDesc)(i:∀w,S w->w.rangeAt b c cs)(m:P.underlying f=some d)(hd:d.isRow=true)(k:(P.info? f).map (·.size)=some cs.length)(h:wpMixF P S K r (a.put o.dst (.agg cs.toArray)) w):wpMixF P S K ((0,o):: r) a w:=by refine qbF j (fun W hW=>?_) h;unfold execOp;simp only[l,p,Instr.loadAt,Instr.sureAddr,Sem.run_bind,Sem.run_pure,Result.andThen_ok,run_loadVar_mid W b c f cs d (i W hW) m hd k]
theorem qbE{f:FuncId}{args:Array Value}(b:o.guard=none)(c:(execOp a.eval o).run P w=.ok (.enter f args) w)(h:Calls P f args w fun e w'=>∃u,e=.returned u/\S w'/\wpMixF P S K r (a.put o.dst u) w'):wpMixF P S K ((2,o):: r) a w:=⟨b,.inl ⟨f,args,c,h⟩⟩
theorem qdM{v:Value}{w':Wo}(c:o.guard=none)(d:(execOp a.eval o).run P w=.ok (.value v) w')(b:S w')(h:wpMixF P S K r (a.put o.dst v) w'):wpMixF P S K ((2,o):: r) a w:=⟨c,.inr ⟨v,w',d,b,h⟩⟩
theorem mixf_store{w':Wo}(b:o.guard=none)(c:(execOp a.eval o).run P w=.ok .skip w')(h:wpMixF P S K r (a.put o.dst undef) w'):wpMixF P S K ((3,o):: r) a w:=⟨b,w',c,h⟩
end
def Region.mixFB(md:Region.Mode)(ops:Array Oper)(n g s:Nat):List (Nat × Nat)->Array Bool->Bool
 |[],listed=>Region.seqB md ops g n listed
 |(0,k):: r,listed=>(Region.ready md ops listed).contains k && Region.free md ops listed k && decide (k<n) && decide (k≠s) && (Region.waitsFor md ops s k || decide (n<=s)) && !(listed.getD s false) && Region.mixFB md ops n g s r (listed.setIfInBounds k true)
 |(1,k):: r,listed=>(Region.ready md ops listed).contains k && Region.free md ops listed k && decide (k<n) && decide (k≠s) && Region.mixFB md ops n g s r (listed.setIfInBounds k true)
 |(2,k):: r,listed=>decide (Region.ready md ops listed=[k]) && decide (k<n) && Region.mixFB md ops n g s r (listed.setIfInBounds k true)
 |(_,k):: r,listed=>decide (Region.ready md ops listed=[k]) && decide (k<n) && decide (k=s) && (listed.setIfInBounds k true).getD s false && Region.mixFB md ops n g s r (listed.setIfInBounds k true)
def Region.mixFTailB(md:Region.Mode)(ops:Array Oper)(n s:Nat)(ord:List (Nat × Nat)):Bool:=
 Region.noSelect ops && decide (n<ops.size) && Region.sinkB md ops n && Region.chainB md ops n && decide (ord.length=n) && Region.mixFB md ops n (ops.size-n) s ord (Array.replicate ops.size false)
theorem qcV{l:List Oper}{d:Oper}{k:Nat}(c:ops=l.toArray)(h:k<n)(f:n<ops.size):ops[k]?=some (l.getD k d):=by
 have b:k<l.length:=by rw[c] at f;simp at f;omega
 rw[c];simp[List.getD,b]
theorem qbP{l:List Oper}{d:Oper}{T:Act->Wo->Prop}(M:ops=l.toArray)(J:Region.noSelect ops=true)(R:Region.sinkB md ops n=true)(O:Region.chainB md ops n=true)(L:n<ops.size)(N:∀ c (a:Act) (dst:Option Tmp) v w,Q (.panic c) (a.put dst v) w->Q (.panic c) a w):
 ∀(ord:List (Nat × Nat))(listed:Array Bool)(a:Act)(w:Wo),HeadInv md ops n listed->Region.mixFB md ops n g s ord listed=true->(listed.getD s false=false->S w)->wpMixF P S T (ord.map fun x=>(x.1,l.getD x.2 d)) a w->
  wpAnyHF P md ops Q S n s (fun listed' a' w'=>Region.seqB md ops g n listed'=true/\T a' w') ord.length listed a w
 |[],listed,a,w,_,hB,_,h=>⟨hB,h⟩
 | (0,k) :: r,listed,a,w,inv,hB,hS,h => by
   simp only[Region.mixFB,Bool.and_eq_true,Bool.or_eq_true,decide_eq_true_eq,Bool.not_eq_true'] at hB
   obtain⟨⟨⟨⟨⟨⟨hr,hf⟩,hkn⟩,hks⟩,hw⟩,hls⟩,hB'⟩:=hB
   have m:k∈Region.ready md ops listed:=by simpa using hr
   obtain⟨v,⟨z,H⟩,D⟩:=h
   have p:=qcV (d:=d) M hkn L
   exact qbR p (Region.noSelect_spec J) R O L hkn hks (fun listed' a' w' hL=>seqB_ready hL.1) (fun c a w=>N c a _ v w) S (.inr ⟨fun _ h=>h,hw⟩) r.length listed a w inv (Region.free_spec p hf) m (.inl ⟨qaX z _,H⟩) (hS hls) hS
    (qbP M J R O L N r _ _ _ (inv.set m hkn) hB' (fun h=>hS (by rwa [qaQ hks] at h)) D)
 | (1,k) :: r,listed,a,w,inv,hB,hS,h => by
   simp only[Region.mixFB,Bool.and_eq_true,decide_eq_true_eq] at hB
   obtain⟨⟨⟨⟨hr,hf⟩,hkn⟩,hks⟩,hB'⟩:=hB
   have m:k∈Region.ready md ops listed:=by simpa using hr
   obtain⟨v,⟨z,H⟩,D⟩:=h
   have p:=qcV (d:=d) M hkn L
   exact qbR p (Region.noSelect_spec J) R O L hkn hks (fun listed' a' w' hL=>seqB_ready hL.1) (fun c a w=>N c a _ v w) (fun _=>True) (.inl fun _=>trivial) r.length listed a w inv (Region.free_spec p hf) m (.inl ⟨qaX z _,fun w _=>H w⟩) trivial hS
    (qbP M J R O L N r _ _ _ (inv.set m hkn) hB' (fun h=>hS (by rwa [qaQ hks] at h)) D)
 | (2,k) :: r,listed,a,w,inv,hB,hS,h => by
   simp only[Region.mixFB,Bool.and_eq_true,decide_eq_true_eq] at hB
   obtain⟨⟨hr,hkn⟩,hB'⟩:=hB
   obtain⟨z,y⟩:=h
   have p:=qcV (d:=d) M hkn L
   refine⟨fun h0=>(by rw[hr] at h0;cases h0),fun j hj=>?_⟩
   have o:=hj
   rw[hr] at hj
   have A:j=k:=by simpa using hj
   subst A
   refine⟨hkn,?_⟩
   unfold wpOp
   simp only[p]
   rw[if_pos (qaX z _)]
   refine .inl ?_
   unfold Oper.wp
   rcases y with⟨f,I,b,q⟩|⟨v,w',b,i,B⟩
   . rw [b]
     exact q.mono fun e w' ⟨u,he,i,B⟩=>by
      subst he
      exact⟨fun _=>i,qbP M J R O L N r _ _ _ (inv.set o hkn) hB' (fun _=>i) B⟩
   . rw[b]
     exact⟨fun _=>i,qbP M J R O L N r _ _ _ (inv.set o hkn) hB' (fun _=>i) B⟩
 |(t + 3,k):: r,listed,a,w,inv,hB,hS,h=>by
   simp only[Region.mixFB,Bool.and_eq_true,decide_eq_true_eq] at hB
   obtain⟨⟨⟨⟨hr,hkn⟩,hks⟩,E⟩,hB'⟩:=hB
   obtain⟨z,w',b,B⟩:=h
   have p:=qcV (d:=d) M hkn L
   refine⟨fun h0=>(by rw[hr] at h0;cases h0),fun j hj=>?_⟩
   have o:=hj
   rw[hr] at hj
   have A:j=k:=by simpa using hj
   subst A
   refine⟨hkn,?_⟩
   unfold wpOp
   simp only[p]
   rw[if_pos (qaX z _)]
   refine .inl ?_
   unfold Oper.wp
   rw[b]
   have C:(listed.setIfInBounds j true).getD s false=false->S w':=fun h=>by rw[E] at h;cases h
   exact⟨C,qbP M J R O L N r _ _ _ (inv.set o hkn) hB' C B⟩
theorem qaS{B:Nat}{a:Act}{w:Wo}{l:List Oper}(n s:Nat)(S:Wo->Prop)(q:List (Nat × Nat))(d:Oper)(A:P.follows .mixedOrders=true)(u:Region.mixFTailB .any l.toArray n s q=true)(y:∀c (a:Act) (dst:Option Tmp) v w,Q (.panic c) (a.put dst v) w->Q (.panic c) a w)(z:S w.drew)(h:wpMixF P S (wpList P l.toArray Q (l.drop n)) (q.map fun x=>(x.1,l.getD x.2 d)) a w.drew):(Code.region B l.toArray true).wp P Q a w:=by
 simp only[Region.mixFTailB,Bool.and_eq_true,decide_eq_true_eq] at u;obtain⟨⟨⟨⟨⟨f,o⟩,p⟩,m⟩,k⟩,b⟩:=u
 have i:HeadInv .any l.toArray n (Array.replicate l.toArray.size false):=
  ⟨U2,fun j oj _ hl=>(by rw[getD_replicate_false] at hl;cases hl),fun t _ ht=>getD_in (by simpa using ht) (getD_replicate_false _ _)⟩
 have H:=qbP (P:=P) (Q:=Q) (md:=.any) (g:=l.toArray.size-n) rfl f p m o y q _ a w.drew i b (fun _=>z) h;refine wp_region_any A ?_
 have:=qeK (g:=l.toArray.size-n) (fun listed' a' w' hL=>by
  have:=wpAny_of_seq (P:=P) (md:=.any) (Q':=Q) (l.drop n) n listed' a' w' (fun j=>by simp[List.getElem?_drop]) (by simpa using hL.1) hL.2
  simpa using this) _ _ a w.drew H
 rw[k,show n+(l.toArray.size-n)=l.toArray.size by omega] at this;exact this
end
end Go.Proofs.YtflejelbdlelpaaGreat
namespace Go.Proofs.YtflejelbdlelpaaGreat
open Go.RowKit
section
variable {P:Program} {ops:Array Oper} {md:Region.Mode} {S:Wo->Prop} {Q:Exit->Act->Wo->Prop} {n g s x lo:Nat} {ox:Oper} {ob:Obj}
def ptrTo(b:Nat):Value:=zP b
def StepTo(P:Program)(o:Oper)(a:Act)(W:Wo)(Φ:Value->Wo->Prop):Prop:=
 (∃f args,(execOp a.eval o).run P W=.ok (.enter f args) W/\Calls P f args W fun e w'=>∃u,e=.returned u/\Φ u w')\/(∃v w',(execOp a.eval o).run P W=.ok (.value v) w'/\Φ v w')
def wpX(P:Program)(S:Wo->Prop)(ob:Obj)(dx:Option Tmp)(lo:Nat)(K:Act->Wo->Prop)(r2:List (Nat × Oper)):List (Nat × Oper)->(Nat->Prop)->Act->Wo->Prop
 |[],F,a,w=>∀W b,zB w W->S W->lo<=b->¬F b->W.heap[b]?=some ob->wpMixF P S K r2 (a.put dx (ptrTo b)) W
 |(0,o):: r,F,a,w=>∃v,(o.guard=none/\∀w,S w->(execOp a.eval o).run P w=.ok (.value v) w)/\wpX P S ob dx lo K r2 r F (a.put o.dst v) w
 |(1,o):: r,F,a,w=>∃v,(o.guard=none/\∀w,(execOp a.eval o).run P w=.ok (.value v) w)/\wpX P S ob dx lo K r2 r F (a.put o.dst v) w
 |(_,o):: r,F,a,w=>o.guard=none/\∀W,zB w W->S W->StepTo P o a W fun u w'=>S w'/\zB W w'/\wpX P S ob dx lo K r2 r (fun b=>F b\/(W.heap.size<=b/\b<w'.heap.size)) (a.put o.dst u) w'
section
variable {dx:Option Tmp} {K:Act->Wo->Prop} {o:Oper} {r r2:List (Nat × Oper)} {F:Nat->Prop} {a:Act} {w:Wo}
theorem x_nil(h:∀W b,zB w W->S W->lo<=b->¬F b->W.heap[b]?=some ob->wpMixF P S K r2 (a.put dx (ptrTo b)) W):wpX P S ob dx lo K r2 [] F a w:=h
theorem x_val{v:Value}(b:o.guard=none)(c:∀w,S w->(execOp a.eval o).run P w=.ok (.value v) w)(h:wpX P S ob dx lo K r2 r F (a.put o.dst v) w):wpX P S ob dx lo K r2 ((0,o):: r) F a w:=⟨v,⟨b,c⟩,h⟩
theorem x_free{v:Value}(b:o.guard=none)(c:∀w,(execOp a.eval o).run P w=.ok (.value v) w)(h:wpX P S ob dx lo K r2 r F (a.put o.dst v) w):wpX P S ob dx lo K r2 ((1,o):: r) F a w:=⟨v,⟨b,c⟩,h⟩
theorem x_load_mid(j:o.guard=none)(f:TypeId)(y:Operand)(l:o.op=.load f y)(b c:Nat)(p:a.eval y=.pointer (some (zA b c)))(cs:List Value)(d:TypeDesc)(i:∀w,S w->w.rangeAt b c cs)(m:P.underlying f=some d)(hd:d.isRow=true)(k:(P.info? f).map (·.size)=some cs.length)(h:wpX P S ob dx lo K r2 r F (a.put o.dst (.agg cs.toArray)) w):wpX P S ob dx lo K r2 ((0,o):: r) F a w:=by refine x_val j (fun W hW=>?_) h;unfold execOp;simp only[l,p,Instr.loadAt,Instr.sureAddr,Sem.run_bind,Sem.run_pure,Result.andThen_ok,run_loadVar_mid W b c f cs d (i W hW) m hd k]
theorem x_call{f:FuncId}{args:Array Value}(c:o.guard=none)(d:∀W,(execOp a.eval o).run P W=.ok (.enter f args) W)(h:∀W,zB w W->S W->Calls P f args W fun e w'=>∃u,e=.returned u/\S w'/\zB W w'/\wpX P S ob dx lo K r2 r (fun b=>F b\/(W.heap.size<=b/\b<w'.heap.size)) (a.put o.dst u) w'):wpX P S ob dx lo K r2 ((2,o):: r) F a w:=
 ⟨c,fun W hb hS=>.inl ⟨f,args,d W,h W hb hS⟩⟩
end
def Region.apartB(ops:Array Oper)(x k:Nat):Bool:=match ops[x]?,ops[k]? with|some ox,some ok=>ox.apart ops ok|_,_=>false
def Region.mixXt(md:Region.Mode)(ops:Array Oper)(n g s x:Nat)(ord2:List (Nat × Nat)):List (Nat × Nat)->Array Bool->Bool
 |[],listed=>Region.mixFB md ops n g s ord2 listed
 |(0,k):: r,listed=>(Region.ready md ops listed).contains k && Region.free md ops listed k && decide (k<n) && decide (k≠s) && Region.waitsFor md ops s k && Region.apartB ops x k && Region.mixXt md ops n g s x ord2 r (listed.setIfInBounds k true)
 |(1,k):: r,listed=>(Region.ready md ops listed).contains k && Region.free md ops listed k && decide (k<n) && decide (k≠s) && Region.apartB ops x k && Region.mixXt md ops n g s x ord2 r (listed.setIfInBounds k true)
 |(_,k):: r,listed=>decide (Region.ready md ops listed=[k]) && decide (k<n) && decide (k≠s) && Region.apartB ops x k && Region.mixXt md ops n g s x ord2 r (listed.setIfInBounds k true)
def Region.mixXf(md:Region.Mode)(ops:Array Oper)(n g s x:Nat)(ord2:List (Nat × Nat)):List (Nat × Nat)->Array Bool->Bool
 |[],listed=>decide (Region.ready md ops listed=[x]) && Region.mixXt md ops n g s x ord2 [] (listed.setIfInBounds x true)
 |(0,k):: r,listed=>(Region.ready md ops listed).contains k && Region.free md ops listed k && decide (k<n) && decide (k≠s) && Region.waitsFor md ops s k && Region.mixXf md ops n g s x ord2 r (listed.setIfInBounds k true)
 |(1,k):: r,listed=>(Region.ready md ops listed).contains k && Region.free md ops listed k && decide (k<n) && decide (k≠s) && Region.mixXf md ops n g s x ord2 r (listed.setIfInBounds k true)
 |(t,k):: r,listed=>decide (Region.ready md ops listed=[k,x]) && decide (k<n) && decide (k≠s) && Region.mixXf md ops n g s x ord2 r (listed.setIfInBounds k true) && Region.mixXt md ops n g s x ord2 ((t,k):: r) (listed.setIfInBounds x true)
theorem qeM{k:Nat}{ok:Oper}(c:ops[x]?=some ox)(b:ops[k]?=some ok)(h:Region.apartB ops x k=true):ox.apart ops ok=true:=by unfold Region.apartB at h;simp only[c,b] at h;exact h
theorem qdX{l:List Oper}{d:Oper}{Lq:Act->Wo->Prop}(U:ops=l.toArray)(R:Region.noSelect ops=true)(Z:Region.sinkB md ops n=true)(X:Region.chainB md ops n=true)(T:n<ops.size)(V:∀ c (a:Act) (dst:Option Tmp) v w,Q (.panic c) (a.put dst v) w->Q (.panic c) a w)(hx:ops[x]?=some ox)(O:List (Nat × Nat)):
 ∀(ord:List (Nat × Nat))(listed:Array Bool)(F:Nat->Prop)(a:Act)(w W:Wo)(b:Nat),HeadInv md ops n listed->Region.mixXt md ops n g s x O ord listed=true->listed.getD s false=false->wpX P S ob ox.dst lo Lq (O.map fun y=>(y.1,l.getD y.2 d)) (ord.map fun y=>(y.1,l.getD y.2 d)) F a w->
  zB w W->S W->lo<=b->¬F b->W.heap[b]?=some ob->
  wpAnyHF P md ops Q S n s (fun listed' a' w'=>Region.seqB md ops g n listed'=true/\Lq a' w') (ord.length+O.length) listed (a.put ox.dst (ptrTo b)) W
 |[],listed,F,a,w,W,b,inv,hB,hls,h,hW,hS,hlo,hF,hb=>by
   rw[List.length_nil,Nat.zero_add]
   exact qbP U R Z X T V O listed _ W inv hB (fun _=>hS) (h W b hW hS hlo hF hb)
 | (0,k) :: r,listed,F,a,w,W,b,inv,hB,hls,h,hW,hS,hlo,hF,hb => by
   simp only[Region.mixXt,Bool.and_eq_true,decide_eq_true_eq] at hB
   obtain⟨⟨⟨⟨⟨⟨hr,hf⟩,hkn⟩,hks⟩,hw⟩,hap⟩,hB'⟩:=hB
   have o:k∈Region.ready md ops listed:=by simpa using hr
   obtain⟨v,⟨H,L⟩,J⟩:=h
   have i:=qcV (d:=d) U hkn T
   obtain⟨E,D,N⟩:=Oper.apart_spec (qeM hx i hap)
   have C:∀w,S w->(execOp (a.put ox.dst (ptrTo b)).eval (l.getD k d)).run P w=.ok (.value v) w:=fun w hw=>by
    rw[execOp_put (l.getD k d) (fun cs b=>Region.noSelect_spec R k _ cs b i) a ox.dst (ptrTo b) E]
    exact L w hw
   rw[List.length_cons,show r.length+1+O.length=(r.length+O.length)+1 by omega]
   refine qbR i (Region.noSelect_spec R) Z X T hkn hks (fun listed' a' w' hL=>seqB_ready hL.1) (fun c a w=>V c a _ v w) S (.inr ⟨fun _ h=>h,.inl hw⟩) _ listed _ W inv (Region.free_spec i hf) o (.inl ⟨qaX H _,C⟩) hS (fun _=>hS) ?_
   rw[Act.put_comm a (ptrTo b) v D]
   exact qdX U R Z X T V hx O r _ F _ w W b (inv.set o hkn) hB' (by rwa [qaQ hks]) J hW hS hlo hF hb
 | (1,k) :: r,listed,F,a,w,W,b,inv,hB,hls,h,hW,hS,hlo,hF,hb => by
   simp only[Region.mixXt,Bool.and_eq_true,decide_eq_true_eq] at hB
   obtain⟨⟨⟨⟨⟨hr,hf⟩,hkn⟩,hks⟩,hap⟩,hB'⟩:=hB
   have o:k∈Region.ready md ops listed:=by simpa using hr
   obtain⟨v,⟨H,L⟩,J⟩:=h
   have i:=qcV (d:=d) U hkn T
   obtain⟨E,D,N⟩:=Oper.apart_spec (qeM hx i hap)
   have C:∀w,True->(execOp (a.put ox.dst (ptrTo b)).eval (l.getD k d)).run P w=.ok (.value v) w:=fun w _=>by
    rw[execOp_put (l.getD k d) (fun cs b=>Region.noSelect_spec R k _ cs b i) a ox.dst (ptrTo b) E]
    exact L w
   rw[List.length_cons,show r.length+1+O.length=(r.length+O.length)+1 by omega]
   refine qbR i (Region.noSelect_spec R) Z X T hkn hks (fun listed' a' w' hL=>seqB_ready hL.1) (fun c a w=>V c a _ v w) (fun _=>True) (.inl fun _=>trivial) _ listed _ W inv (Region.free_spec i hf) o (.inl ⟨qaX H _,C⟩) trivial (fun _=>hS) ?_
   rw[Act.put_comm a (ptrTo b) v D]
   exact qdX U R Z X T V hx O r _ F _ w W b (inv.set o hkn) hB' (by rwa [qaQ hks]) J hW hS hlo hF hb
 | (t + 2,k) :: r,listed,F,a,w,W,b,inv,hB,hls,h,hW,hS,hlo,hF,hb => by
   simp only[Region.mixXt,Bool.and_eq_true,decide_eq_true_eq] at hB
   obtain⟨⟨⟨⟨hr,hkn⟩,hks⟩,hap⟩,hB'⟩:=hB
   obtain⟨H,B⟩:=h
   have i:=qcV (d:=d) U hkn T
   obtain⟨E,D,N⟩:=Oper.apart_spec (qeM hx i hap)
   rw[List.length_cons,show r.length+1+O.length=(r.length+O.length)+1 by omega]
   refine⟨fun h0=>(by rw[hr] at h0;cases h0),fun j hj=>?_⟩
   have I:=hj
   rw[hr] at hj
   have K:j=k:=by simpa using hj
   subst K
   refine⟨hkn,?_⟩
   unfold wpOp
   simp only[i]
   rw[if_pos (qaX H _)]
   refine .inl ?_
   unfold Oper.wp
   rw[execOp_put (l.getD j d) (fun cs b=>Region.noSelect_spec R j _ cs b i) a ox.dst (ptrTo b) E]
   rcases B W hW hS with⟨f,M,p,A⟩|⟨u,w',p,m,q,hr⟩
   . rw [p]
     exact A.mono fun e w' ⟨u,he,m,q,hr⟩=>by
      subst he
      have z:=(Array.getElem?_eq_some_iff.1 hb).1
      refine⟨fun _=>m,?_⟩
      show wpAnyHF P md ops Q S n s _ _ _ ((a.put ox.dst (ptrTo b)).put (l.getD j d).dst u) w'
      rw[Act.put_comm a (ptrTo b) u D]
      exact qdX U R Z X T V hx O r _ _ _ w' w' b (inv.set I hkn) hB' (by rwa [qaQ hks]) hr zV m hlo (fun h=>h.elim hF (fun h=>U0)) ((q.block b z).trans hb)
   . rw[p]
     have z:=(Array.getElem?_eq_some_iff.1 hb).1
     refine⟨fun _=>m,?_⟩
     show wpAnyHF P md ops Q S n s _ _ _ ((a.put ox.dst (ptrTo b)).put (l.getD j d).dst u) w'
     rw[Act.put_comm a (ptrTo b) u D]
     exact qdX U R Z X T V hx O r _ _ _ w' w' b (inv.set I hkn) hB' (by rwa [qaQ hks]) hr zV m hlo (fun h=>h.elim hF (fun h=>U0)) ((q.block b z).trans hb)
theorem qdV{l:List Oper}{d:Oper}{Lq:Act->Wo->Prop}(hl:ops=l.toArray)(T:Region.noSelect ops=true)(hs:Region.sinkB md ops n=true)(hc:Region.chainB md ops n=true)(hn:n<ops.size)(hQ:∀ c (a:Act) (dst:Option Tmp) v w,Q (.panic c) (a.put dst v) w->Q (.panic c) a w)(hx:ops[x]?=some ox)(V:x<n)(Z:x≠s)(W:ox.guard=none)(X:∀ (a:Act)(w:Wo),(execOp a.eval ox).run P w=.ok (.value (ptrTo w.heap.size)) (w.alloc ob))(U:∀ w,S w->S (w.alloc ob))(R:List (Nat × Nat)):
 ∀(ord:List (Nat × Nat))(listed:Array Bool)(F:Nat->Prop)(a:Act)(w:Wo),HeadInv md ops n listed->Region.mixXf md ops n g s x R ord listed=true->listed.getD s false=false->wpX P S ob ox.dst lo Lq (R.map fun y=>(y.1,l.getD y.2 d)) (ord.map fun y=>(y.1,l.getD y.2 d)) F a w->S w->lo<=w.heap.size->(∀b,F b->b<w.heap.size)->
  wpAnyHF P md ops Q S n s (fun listed' a' w'=>Region.seqB md ops g n listed'=true/\Lq a' w') (ord.length+R.length+1) listed a w
 |[],listed,F,a,w,inv,hB,hls,h,hS,hlo,hF=>by
   simp only[Region.mixXf,Bool.and_eq_true,decide_eq_true_eq] at hB
   obtain⟨hr,hB'⟩:=hB
   refine⟨fun h0=>(by rw[hr] at h0;cases h0),fun j hj=>?_⟩
   have q:=hj
   rw[hr] at hj
   have z:j=x:=by simpa using hj
   subst z
   refine⟨V,?_⟩
   unfold wpOp
   simp only[hx]
   rw[if_pos (qaX W _)]
   refine .inl ?_
   unfold Oper.wp
   rw[X]
   exact⟨fun _=>U w hS,qdX (ob:=ob) hl T hs hc hn hQ hx R [] _ F a w (w.alloc ob) w.heap.size (inv.set q V) hB' (by rwa [qaQ Z]) h (zV.alloc zn _) (U w hS) hlo (fun h=>by have:=hF _ h;omega) (heap_alloc_new _ _)⟩
 |(0,k):: r,listed,F,a,w,inv,hB,hls,h,hS,hlo,hF=>by
   simp only[Region.mixXf,Bool.and_eq_true,decide_eq_true_eq] at hB
   obtain⟨⟨⟨⟨⟨hr,K⟩,i⟩,m⟩,O⟩,hB'⟩:=hB
   have A:k∈Region.ready md ops listed:=by simpa using hr
   obtain⟨v,⟨H,M⟩,J⟩:=h
   have D:=qcV (d:=d) hl i hn
   rw[List.length_cons,show r.length+1+R.length+1=(r.length+R.length+1)+1 by omega]
   refine qbR D (Region.noSelect_spec T) hs hc hn i m (fun listed' a' w' hL=>seqB_ready hL.1) (fun c a w=>hQ c a _ v w) S (.inr ⟨fun _ h=>h,.inl O⟩) _ listed _ w inv (Region.free_spec D K) A (.inl ⟨qaX H _,M⟩) hS (fun _=>hS) ?_
   exact qdV hl T hs hc hn hQ hx V Z W X U R r _ F _ w (inv.set A i) hB' (by rwa [qaQ m]) J hS hlo hF
 |(1,k):: r,listed,F,a,w,inv,hB,hls,h,hS,hlo,hF=>by
   simp only[Region.mixXf,Bool.and_eq_true,decide_eq_true_eq] at hB
   obtain⟨⟨⟨⟨hr,K⟩,i⟩,m⟩,hB'⟩:=hB
   have A:k∈Region.ready md ops listed:=by simpa using hr
   obtain⟨v,⟨H,M⟩,J⟩:=h
   have D:=qcV (d:=d) hl i hn
   rw[List.length_cons,show r.length+1+R.length+1=(r.length+R.length+1)+1 by omega]
   refine qbR D (Region.noSelect_spec T) hs hc hn i m (fun listed' a' w' hL=>seqB_ready hL.1) (fun c a w=>hQ c a _ v w) (fun _=>True) (.inl fun _=>trivial) _ listed _ w inv (Region.free_spec D K) A (.inl ⟨qaX H _,fun w _=>M w⟩) trivial (fun _=>hS) ?_
   exact qdV hl T hs hc hn hQ hx V Z W X U R r _ F _ w (inv.set A i) hB' (by rwa [qaQ m]) J hS hlo hF
 | (t + 2,k) :: r,listed,F,a,w,inv,hB,hls,h,hS,hlo,hF => by
   simp only[Region.mixXf,Bool.and_eq_true,decide_eq_true_eq] at hB
   obtain⟨⟨⟨⟨hr,i⟩,m⟩,hB'⟩,I⟩:=hB
   have D:=qcV (d:=d) hl i hn
   rw[List.length_cons,show r.length+1+R.length+1=(r.length+R.length+1)+1 by omega]
   refine⟨fun h0=>(by rw[hr] at h0;cases h0),fun j hj=>?_⟩
   have q:=hj
   rw[hr] at hj
   rcases List.mem_cons.1 hj with z|z
   . subst z
     refine⟨i,?_⟩
     obtain⟨H,E⟩:=h
     unfold wpOp
     simp only[D]
     rw[if_pos (qaX H _)]
     refine .inl ?_
     unfold Oper.wp
     rcases E w zV hS with⟨f,N,B,C⟩|⟨u,w',B,o,p,hr⟩
     . rw [B]
       exact C.mono fun e w' ⟨u,he,o,p,hr⟩=>by
        subst he
        exact⟨fun _=>o,qdV hl T hs hc hn hQ hx V Z W X U R r _ _ _ w' (inv.set q i) hB' (by rwa [qaQ m]) hr o (Nat.le_trans hlo p.size) (fun b hb=>hb.elim (fun h=>Nat.lt_of_lt_of_le (hF b h) p.size) (fun h=>h.2))⟩
     . rw[B]
       exact⟨fun _=>o,qdV hl T hs hc hn hQ hx V Z W X U R r _ _ _ w' (inv.set q i) hB' (by rwa [qaQ m]) hr o (Nat.le_trans hlo p.size) (fun b hb=>hb.elim (fun h=>Nat.lt_of_lt_of_le (hF b h) p.size) (fun h=>h.2))⟩
   . have L : j = x:=by simpa using z
     subst L
     refine⟨V,?_⟩
     unfold wpOp
     simp only[hx]
     rw[if_pos (qaX W _)]
     refine .inl ?_
     unfold Oper.wp
     rw[X]
     refine⟨fun _=>U w hS,?_⟩
     have:=qdX (ob:=ob) (Q:=Q) (g:=g) hl T hs hc hn hQ hx R ((t+2,k):: r) _ F a w (w.alloc ob) w.heap.size (inv.set q V) I (by rwa [qaQ Z]) h (zV.alloc zn _) (U w hS) hlo (fun h=>by have:=hF _ h;omega) (heap_alloc_new _ _)
     rw[List.length_cons,show r.length+1+R.length=r.length+R.length+1 by omega] at this
     exact this
def Region.mixXTailB(md:Region.Mode)(ops:Array Oper)(n s x:Nat)(ord ord2:List (Nat × Nat)):Bool:=
 Region.noSelect ops && decide (n<ops.size) && Region.sinkB md ops n && Region.chainB md ops n && decide (ord.length+ord2.length+1=n) && decide (x<n) && decide (x≠s) && Region.mixXf md ops n (ops.size-n) s x ord2 ord (Array.replicate ops.size false)
theorem wp_region_mixx{M:Nat}{a:Act}{w:Wo}{l:List Oper}(n s x:Nat)(S:Wo->Prop)(z u:List (Nat × Nat))(d:Oper)(ox:Oper)(ob:Obj)(J:P.follows .mixedOrders=true)(D:Region.mixXTailB .any l.toArray n s x z u=true)(E:∀c (a:Act) (dst:Option Tmp) v w,Q (.panic c) (a.put dst v) w->Q (.panic c) a w)(L:l.toArray[x]?=some ox)(B:ox.guard=none)(C:∀(a:Act)(w:Wo),(execOp a.eval ox).run P w=.ok (.value (ptrTo w.heap.size)) (w.alloc ob))(A:∀w,S w->S (w.alloc ob))(I:S w.drew)(h:wpX P S ob ox.dst w.heap.size (wpList P l.toArray Q (l.drop n)) (u.map fun y=>(y.1,l.getD y.2 d)) (z.map fun y=>(y.1,l.getD y.2 d)) (fun _=>False) a w.drew):(Code.region M l.toArray true).wp P Q a w:=by
 simp only[Region.mixXTailB,Bool.and_eq_true,decide_eq_true_eq] at D;obtain⟨⟨⟨⟨⟨⟨⟨f,q⟩,r⟩,p⟩,k⟩,m⟩,o⟩,b⟩:=D
 have i:HeadInv .any l.toArray n (Array.replicate l.toArray.size false):=
  ⟨U2,fun j oj _ hl=>(by rw[getD_replicate_false] at hl;cases hl),fun t _ ht=>getD_in (by simpa using ht) (getD_replicate_false _ _)⟩
 have H:=qdV (P:=P) (Q:=Q) (md:=.any) (g:=l.toArray.size-n) rfl f r p q E L m o B C A u z _ (fun _=>False) a w.drew i b (getD_replicate_false _ _) h I zn (fun _ h=>h.elim);refine wp_region_any J ?_
 have:=qeK (g:=l.toArray.size-n) (fun listed' a' w' hL=>by
  have:=wpAny_of_seq (P:=P) (md:=.any) (Q':=Q) (l.drop n) n listed' a' w' (fun j=>by simp[List.getElem?_drop]) (by simpa using hL.1) hL.2
  simpa using this) _ _ a w.drew H
 rw[k,show n+(l.toArray.size-n)=l.toArray.size by omega] at this;exact this
end
end Go.Proofs.YtflejelbdlelpaaGreat
namespace Go.Proofs.YtflejelbdlelpaaGreat
namespace Al
def zs:Nat->(Nat->Int)->Int
 |0,_=>0
 |n+1,f=>zs n f+f n
theorem qeX{n:Nat}{f g:Nat->Int}(h:∀j,j<n->f j=g j):zs n f=zs n g:=by
 induction n with
 |zero=>rfl
 |succ n ih=>unfold zs;rw[ih fun j hj=>h j U0,h n U0]
theorem zs_zero{n:Nat}{f:Nat->Int}(h:∀j,j<n->f j=0):zs n f=0:=by
 induction n with
 |zero=>rfl
 |succ n ih=>unfold zs;rw[ih fun j hj=>h j U0,h n U0];rfl
theorem zs_add(n:Nat)(f g:Nat->Int):zs n (fun j=>f j+g j)=zs n f+zs n g:=by
 induction n with
 |zero=>rfl
 |succ n ih=>show zs n (fun j=>f j+g j)+(f n+g n)=zs n f+f n+(zs n g+g n);rw[ih];omega
theorem zs_mul(n:Nat)(a:Int)(f:Nat->Int):zs n (fun j=>f j*a)=zs n f*a:=by
 induction n with
 |zero=>exact(Int.zero_mul a).symm
 |succ n ih=>show zs n (fun j=>f j*a)+f n*a=(zs n f+f n)*a;rw[ih,Int.add_mul]
theorem zs_const(n:Nat)(a:Int):zs n (fun _=>a)=(n:Int)*a:=by
 induction n with
 |zero=>exact(Int.zero_mul a).symm
 |succ n ih=>show zs n (fun _=>a)+a=_;rw[ih,Int.natCast_add,Int.add_mul];simp
theorem zs_front(n:Nat)(f:Nat->Int):zs (n+1) f=f 0+zs n (fun j=>f (j+1)):=by
 induction n with
 |zero=>simp[zs]
 |succ n ih=>show zs (n+1) f+f (n+1)=f 0+(zs n (fun j=>f (j+1))+f (n+1));rw[ih];omega
theorem zs_nonneg{n:Nat}{f:Nat->Int}(h:∀j,j<n->0<=f j):0<=zs n f:=by
 induction n with
 |zero=>exact Int.le_refl 0
 |succ n ih=>have b:=ih fun j hj=>h j U0;have c:=h n U0;unfold zs;omega
theorem zs_pos{n i:Nat}{f:Nat->Int}(h:∀j,j<n->0<=f j)(d:i<n)(g:0<f i):0<zs n f:=by
 induction n with
 |zero=>omega
 |succ n ih=>
  have c:=h n U0;unfold zs;by_cases e:i=n
  . subst e;have b:=zs_nonneg (n:=i) (f:=f) fun j hj=>h j U0;omega
  . have b:=ih (fun j hj=>h j U0) U0;omega
theorem zs_one{n i:Nat}{u v:Int}(b:i<n):zs n (fun j=>if j=i then u else v)=u+((n:Int)-1)*v:=by
 induction n with
 |zero=>omega
 |succ n ih=>
  show zs n (fun j=>if j=i then u else v)+(if n=i then u else v)=_;by_cases e:i=n
  . subst e;rw[if_pos rfl,qeX (g:=fun _=>v) (fun j hj=>if_neg U0),zs_const];have:((i+1:Nat):Int)-1=i:=U0;rw[this];omega
  . rw[ih U0,if_neg U0];have:((n+1:Nat):Int)-1=((n:Int)-1)+1:=U0;rw[this,Int.add_mul ((n:Int)-1) 1 v,Int.one_mul];omega
def ch:Nat->Nat->Nat
 |_,0=>1
 |0,_+1=>0
 |n+1,k+1=>ch n k+ch n (k+1)
theorem ch_big:∀ {n k:Nat},n<k->ch n k=0
 |0,0,h=>by omega
 |0,_+1,_=>rfl
 |n+1,0,h=>by omega
 |n + 1,k + 1,h=>by
   unfold ch
   rw[ch_big (n:=n) (k:=k) U0,ch_big (n:=n) (k:=k+1) U0]
theorem ch_step:∀ n k,ch n (k+1)*(k+1)=ch n k*(n-k)
 |0,k=>by
   show 0*(k+1)=_
   rw[Nat.zero_sub,Nat.zero_mul,Nat.mul_zero]
 |n + 1,0=>by
   have:ch n 1*1=ch n 0*(n-0):=ch_step n 0
   have e:ch n 0=1:=by unfold ch;rfl
   show(ch n 0+ch n 1)*1=1*(n+1)
   rw[e] at this ⊢
   omega
 | n + 1,k + 1 => by
   have g:=ch_step n k
   have h:=ch_step n (k+1)
   show(ch n (k+1)+ch n (k+2))*(k+2)=(ch n k+ch n (k+1))*(n+1-(k+1))
   have b:(ch n (k+1)+ch n (k+2))*(k+2)=ch n (k+1)*(k+1)+ch n (k+1)+ch n (k+2)*(k+1+1):=by
    rw[Nat.add_mul,Nat.mul_succ (ch n (k+1)) (k+1)]
   have d:n+1-(k+1)=n-k:=U0
   rw[b,g,h,d,Nat.add_mul]
   by_cases c:k<n
   . have f : n - k = (n - (k + 1)) + 1:=by omega
     rw[f,Nat.mul_succ (ch n (k+1))]
     omega
   . rw[ch_big (n:=n) (k:=k + 1) U0]
     simp
theorem ch_self:∀ n,ch n n=1
 |0=>rfl
 |n + 1=>by
   unfold ch
   rw[ch_self n,ch_big (n:=n) (k:=n+1) U0]
theorem ch_symm:∀ {n k:Nat},k<=n->ch n (n-k)=ch n k
 |n,0,_=>by
   rw[Nat.sub_zero,ch_self]
   unfold ch
   rfl
 |0,k+1,h=>by omega
 | n + 1,k + 1,h => by
   have e:n+1-(k+1)=n-k:=U0
   rw[e]
   by_cases c:k=n
   . subst c
     rw[Nat.sub_self,ch_self]
     unfold ch
     rfl
   . have d : n - k = (n - (k + 1)) + 1:=by omega
     have b:=ch_symm (n:=n) (k:=k) U0
     have f:=ch_symm (n:=n) (k:=k+1) U0
     rw[d] at b ⊢
     show ch n (n-(k+1))+ch n (n-(k+1)+1)=ch n k+ch n (k+1)
     rw[b,f,Nat.add_comm]
theorem ch_le:∀ n k,ch n k<=2 ^ n
 |0,0=>Nat.le_refl 1
 |0,k+1=>Nat.zero_le _
 |n+1,0=>Nat.one_le_two_pow
 |n + 1,k + 1=>by
   have h1:=ch_le n k
   have b:=ch_le n (k+1)
   show ch n k+ch n (k+1)<=2^(n+1)
   rw[Nat.pow_succ]
   omega
def pp(q:Nat):Nat->Nat->Int
 |0,0=>1
 |0,_+1=>0
 |m+1,0=>pp q m 0
 |m+1,k+1=>pp q m (k+1)+((q:Int)-1)*pp q m k
theorem pp_ch(q:Nat):∀ n k,pp q n k=(ch n k:Int)*((q:Int)-1) ^ k
 |0,0=>by
   rw[Int.pow_zero,Int.mul_one]
   rfl
 |0,k+1=>(Int.zero_mul _).symm
 |n + 1,0=>by
   have:=pp_ch q n 0
   unfold ch at this ⊢
   exact this
 |n + 1,k + 1=>by
   unfold pp ch
   rw[pp_ch q n (k+1),pp_ch q n k,Int.natCast_add,Int.add_mul,Int.pow_succ,<- Int.mul_assoc (ch n k:Int),Int.mul_comm ((q:Int)-1)]
   omega
def pm(q:Nat):Nat->Nat->Nat->Int
 |0,m,k=>pp q m k
 |x+1,m,0=>pm q x m 0
 |x+1,m,k+1=>pm q x m (k+1)-pm q x m k
theorem pm_zero(q:Nat):∀x m,pm q x (m+1) 0=pm q x m 0
 |0,_=>rfl
 |x+1,m=>pm_zero q x m
theorem pm_plus(q:Nat):∀ x m k,pm q x (m+1) (k+1)=pm q x m (k+1)+((q:Int)-1)*pm q x m k
 |0,_,_=>rfl
 |x + 1,m,0=>by
   show pm q x (m+1) 1-pm q x (m+1) 0=pm q x m 1-pm q x m 0+((q:Int)-1)*pm q x m 0
   have h:pm q x (m+1) 1=pm q x m 1+((q:Int)-1)*pm q x m 0:=pm_plus q x m 0
   rw[h,pm_zero]
   omega
 |x + 1,m,k + 1=>by
   show pm q x (m+1) (k+2)-pm q x (m+1) (k+1)=pm q x m (k+2)-pm q x m (k+1)+((q:Int)-1)*(pm q x m (k+1)-pm q x m k)
   have h:pm q x (m+1) (k+2)=pm q x m (k+2)+((q:Int)-1)*pm q x m (k+1):=pm_plus q x m (k+1)
   rw[h,pm_plus q x m k,Int.mul_sub]
   omega
def tn(q:Nat)(old:Nat->Int):Nat->Int
 |0=>old 0
 |k+1=>old (k+1)-old k-((q:Int)-1)*tn q old k
def tb(q n:Nat):Nat->Nat->Int
 |0=>pp q n
 |x+1=>tn q (tb q n x)
theorem tb_pm(q n:Nat):∀ x,x<=n->∀ k,tb q n x k=pm q x (n-x) k
 |0,_,_=>rfl
 |x + 1,hx,0=>by
   have:=tb_pm q n x U0 0
   have e:n-x=(n-(x+1))+1:=U0
   rw[e,pm_zero] at this
   exact this
 |x + 1,hx,k + 1=>by
   have b:=tb_pm q n x U0 (k+1)
   have c:=tb_pm q n x U0 k
   have d:=tb_pm q n (x+1) hx k
   have e:n-x=(n-(x+1))+1:=U0
   have f:=pm_plus q (x+1) (n-(x+1)) k
   rw[e] at b c
   have g:pm q (x+1) (n-(x+1)+1) (k+1)=pm q x (n-(x+1)+1) (k+1)-pm q x (n-(x+1)+1) k:=rfl
   show tb q n x (k+1)-tb q n x k-((q:Int)-1)*tb q n (x+1) k=_
   rw[b,c,d]
   omega
theorem pp_le{q:Nat}(h:1<=q):∀ m k,(pp q m k).natAbs<=q ^ m
 |0,0=>Nat.le_refl 1
 |0,k+1=>Nat.zero_le _
 |m + 1,0=>by
   have:=pp_le h m 0
   show(pp q m 0).natAbs<=q^(m+1)
   rw[Nat.pow_succ]
   exact Nat.le_trans this (Nat.le_mul_of_pos_right _ h)
 | m + 1,k + 1 => by
   have d:=pp_le h m (k+1)
   have b:=pp_le h m k
   show(pp q m (k+1)+((q:Int)-1)*pp q m k).natAbs<=q^(m+1)
   have c:=Int.natAbs_add_le (pp q m (k+1)) (((q:Int)-1)*pp q m k)
   rw[Int.natAbs_mul,show((q:Int)-1).natAbs=q-1 by omega] at c
   have f:(q-1)*(pp q m k).natAbs<=(q-1)*q^m:=Nat.mul_le_mul_left _ b
   have g:q^(m+1)=q^m+(q-1)*q^m:=by
    rw[Nat.pow_succ,Nat.mul_comm]
    have:q=1+(q-1):=U0
    rw[this,Nat.add_mul,Nat.one_mul]
    simp
   omega
theorem pm_le{q:Nat}(d:1<=q):∀ x m k,(pm q x m k).natAbs<=2 ^ x*q ^ m
 |0,m,k=>by
   rw[Nat.pow_zero,Nat.one_mul]
   exact pp_le d m k
 |x + 1,m,0=>by
   have:=pm_le d x m 0
   show(pm q x m 0).natAbs<=_
   rw[Nat.pow_succ,Nat.mul_right_comm]
   omega
 |x + 1,m,k + 1=>by
   have b:=pm_le d x m (k+1)
   have c:=pm_le d x m k
   show(pm q x m (k+1)-pm q x m k).natAbs<=_
   rw[Nat.pow_succ,Nat.mul_right_comm]
   omega
theorem tb_le{q n x k:Nat}(d:2<=q)(f:x<=n):(tb q n x k).natAbs<=q^n:=by rw[tb_pm q n x f];have c:=pm_le (q:=q) U0 x (n-x) k;have b:2^x*q^(n-x)<=q^x*q^(n-x):=Nat.mul_le_mul_right _ (Nat.pow_le_pow_left d x);rw[<- Nat.pow_add,show x+(n-x)=n by omega] at b;omega
end Al
end Go.Proofs.YtflejelbdlelpaaGreat
