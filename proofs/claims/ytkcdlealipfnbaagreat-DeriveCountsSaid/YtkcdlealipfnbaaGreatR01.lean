/- Parts of the proof. -/
import Derived.Deep.DeepFit
import Derived.StillTail
import Derived.Lib.Hide
import Derived.Test.YtkcdlealipfnbaaGreatChecked
import Derived.Deep.MidRow
import Derived.Deep.WholeRow
import Derived.Deep.Draws
import Derived.OrdersIn
import Derived.RangeFuncSeq
set_option maxRecDepth 100000
set_option maxHeartbeats 8000000
namespace Go.Proofs.YtkcdlealipfnbaaGreat
open Go Go.RowKit Go.Proofs.Tryz
abbrev OA:=Option Addr
abbrev LN:=List Nat
abbrev LL:=List (List Nat)
abbrev LI:=List Int
abbrev Wo:=World
abbrev zB(w W:World):Prop:=Below w.heap.size w W
abbrev Y(x:Int):Value:=.int .i64 x
abbrev zN(x:Nat):Value:=.int .i64 (x:Int)
abbrev zL(a:OA)(n c:Nat):Value:=.slice a n c
abbrev zS(b:Nat)(n c:Nat):Value:=.slice (some ⟨b,0,none⟩) n c
abbrev zP(b:Nat):Value:=.pointer (some ⟨b,0,none⟩)
abbrev zA(b o:Nat):Addr:=⟨b,o,none⟩
abbrev zO(b:Nat):OA:=some ⟨b,0,none⟩
abbrev zC:=Calls prog
theorem zV{b:Nat}{w:World}:Below b w w:=Below.refl _ _
theorem zn{n:Nat}:n<=n:=Nat.le_refl n
def zK(p:Prop):Prop:=p
theorem zK.o{p:Prop}(h:zK p):p:=h
theorem zK.out{p:Prop}(h:zK p):p:=h
theorem zH{P:Prop}(h:P):zK P:=h
abbrev C2(x0:Int)(x1:Int)(a2:OA)(l2 c2:Nat)(x3:Int)(a4:OA)(l4 c4:Nat):List Value:=[Y x0,Y x1,.slice a2 l2 c2,Y x3,.slice a4 l4 c4]
abbrev C3(x0:Int)(x1:Int)(a2:OA)(l2 c2:Nat):Obj:=.cells #[Y x0,Y x1,.slice a2 l2 c2] 29
abbrev C4(x0:Int)(x1:Int)(x2:Int)(x4:Int)(a5 l5 c5:Nat)(x6:Int):Obj:=.cells #[Y x0,Y x1,Y x2,.slice none 0 0,Y x4,.slice (some ⟨a5,0,none⟩) l5 c5,Y x6,.slice none 0 0,.slice none 0 0,Y 0,Y 0,.slice none 0 0,Y 0,Y 0,Y 0,Y 0,Y 0,.slice none 0 0,.slice none 0 0,.slice none 0 0,.slice none 0 0,Y 0,.slice none 0 0] 40
abbrev C5(a0:Nat)(a1:Nat)(a2:Nat)(a3:Nat)(a4:Nat):Array Value:=#[.pointer (some ⟨a0,0,none⟩),.pointer (some ⟨a1,0,none⟩),.pointer (some ⟨a2,0,none⟩),.pointer (some ⟨a3,0,none⟩),.pointer (some ⟨a4,0,none⟩)]
abbrev C6(x0:Int)(x1:Int)(a2:OA)(l2 c2:Nat):Value:=.agg #[Y x0,Y x1,.slice a2 l2 c2]
abbrev C7(x0:Int)(x1:Int)(a2:OA)(l2 c2:Nat):List Value:=[Y x0,Y x1,.slice a2 l2 c2]
abbrev C8(x0:Int)(x1:Int)(x2:Int)(x4:Int)(a5 l5 c5:Nat)(x6:Int)(x23:Int)(x24:Int)(x25:Int)(x27:Int)(a28 l28 c28:Nat)(x29:Int):Obj:=.cells #[Y x0,Y x1,Y x2,.slice none 0 0,Y x4,.slice (some ⟨a5,0,none⟩) l5 c5,Y x6,.slice none 0 0,.slice none 0 0,Y 0,Y 0,.slice none 0 0,Y 0,Y 0,Y 0,Y 0,Y 0,.slice none 0 0,.slice none 0 0,.slice none 0 0,.slice none 0 0,Y 0,.slice none 0 0,Y x23,Y x24,Y x25,.slice none 0 0,Y x27,.slice (some ⟨a28,0,none⟩) l28 c28,Y x29,.slice none 0 0,.slice none 0 0,Y 0,Y 0,.slice none 0 0,Y 0,Y 0,Y 0,Y 0,Y 0,.slice none 0 0,.slice none 0 0,.slice none 0 0,.slice none 0 0,Y 0,.slice none 0 0] 40
abbrev C9(x0:Int)(x1:Int)(a2:OA)(l2 c2:Nat)(x3:Int)(a4:OA)(l4 c4:Nat):Obj:=.cells #[Y x0,Y x1,.slice a2 l2 c2,Y x3,.slice a4 l4 c4] 32
abbrev Ca(x0:Int)(x1:Int)(a2:OA)(l2 c2:Nat)(x3:Int)(a4:OA)(l4 c4:Nat):Value:=.agg #[Y x0,Y x1,.slice a2 l2 c2,Y x3,.slice a4 l4 c4]
abbrev Cb(x0:Int)(x1:Int)(x3:Int)(a4 l4 c4:Nat):List Value:=[Y x0,Y x1,.slice none 0 0,Y x3,.slice (some ⟨a4,0,none⟩) l4 c4]
abbrev Cc(x0:Int)(a1:OA)(l1 c1:Nat):Obj:=.cells #[Y x0,.slice a1 l1 c1] 54
abbrev Cd(x0:Int)(x1:Int)(a2:OA)(l2 c2:Nat)(x3:Int)(a4:OA)(l4 c4:Nat):Array Value:=#[Y x0,Y x1,.slice a2 l2 c2,Y x3,.slice a4 l4 c4]
abbrev Ce(x0:Int)(a1:OA)(l1 c1:Nat)(a2:Nat)(a3:Nat)(a4:Nat)(a5:Nat)(a6:Nat):Array Value:=#[Y x0,.slice a1 l1 c1,.pointer (some ⟨a2,0,none⟩),.pointer (some ⟨a3,0,none⟩),.pointer (some ⟨a4,0,none⟩),.pointer (some ⟨a5,0,none⟩),.pointer (some ⟨a6,0,none⟩)]
abbrev Cf(a0:Nat)(x1:Int)(x2:Int):Array Value:=#[.pointer (some ⟨a0,0,none⟩),Y x1,Y x2]
abbrev Ch(x0:Int)(x1:Int)(x2:Int)(x4:Int)(a5 l5 c5:Nat)(x6:Int):List Value:=[Y x0,Y x1,Y x2,.slice none 0 0,Y x4,.slice (some ⟨a5,0,none⟩) l5 c5,Y x6,.slice none 0 0,.slice none 0 0,Y 0,Y 0,.slice none 0 0,Y 0,Y 0,Y 0,Y 0,Y 0,.slice none 0 0,.slice none 0 0,.slice none 0 0,.slice none 0 0,Y 0,.slice none 0 0]
abbrev Ci:Obj:=.cells #[Y 0,Y 0,.slice none 0 0,Y 0,.slice none 0 0] 32
abbrev Cj(x0:Int)(x1:Int)(a2 l2 c2:Nat)(x3:Int)(a4 l4 c4:Nat)(a5 l5 c5:Nat):Obj:=.cells #[Y x0,Y x1,.slice (some ⟨a2,0,none⟩) l2 c2,Y x3,.slice (some ⟨a4,0,none⟩) l4 c4,.slice (some ⟨a5,0,none⟩) l5 c5] 171
abbrev Ck(x0:Int)(x1:Int)(x3:Int)(a4 l4 c4:Nat):Value:=.agg #[Y x0,Y x1,.slice none 0 0,Y x3,.slice (some ⟨a4,0,none⟩) l4 c4]
abbrev Cm(a0:Nat)(x1:Int):Array Value:=#[.pointer (some ⟨a0,0,none⟩),Y x1]
abbrev Co(x0:Int)(x1:Int)(a2:OA)(l2 c2:Nat)(x3:Int)(a4 l4 c4:Nat)(a5 l5 c5:Nat):Obj:=.cells #[Y x0,Y x1,.slice a2 l2 c2,Y x3,.slice (some ⟨a4,0,none⟩) l4 c4,.slice (some ⟨a5,0,none⟩) l5 c5] 171
abbrev Cp(x0:Int)(a1 l1 c1:Nat):Array Value:=#[Y x0,.slice (some ⟨a1,0,none⟩) l1 c1]
abbrev Cq(a0:Nat):Array Value:=#[.pointer (some ⟨a0,0,none⟩),Y 0]
abbrev Cr(a0:OA):Array Value:=#[.pointer a0,Y 0,.slice none 0 0,.slice none 0 0]
abbrev Cs(x0:Int)(x1:Int)(x2:Int):Obj:=.cells #[Y x0,Y x1,Y x2] 3
abbrev Ct:Array Value:=#[Y 0,Y 0,.slice none 0 0,Y 0,.slice none 0 0]
abbrev Cu:List Value:=[Y 0,Y 0,.slice none 0 0,Y 0,.slice none 0 0]
abbrev Cv:Array Value:=#[Y 0,.slice none 0 0]
abbrev Cw:Obj:=.cells #[Y 0,Y 0,.slice none 0 0] 29
abbrev Cx(x0:Int)(a1:OA)(l1 c1:Nat):Value:=.agg #[Y x0,.slice a1 l1 c1]
abbrev Cy:Obj:=.cells #[Y 0,.slice none 0 0] 54
theorem U8{P:Prop}(h:P:=by show _=_;rw[Int.natCast_add];exact IntWalk.i64_in _ (by omega)):P:=h
theorem df{P:Prop}(h:P:=by first|rfl|rw[World.drewN_drewN]):P:=h
theorem U6{P:Prop}(h:P:=by first|assumption|(simp;omega)):P:=h
theorem oc{P:Prop}(h:P:=by simp[Value.ownBlock]<;>omega):P:=h
theorem V1{P:Prop}(h:P:=by simp[Value.ownBlock];omega):P:=h
theorem U4{P:Prop}(h:P:=by first|rfl|simp_all):P:=h
theorem U9{P:Prop}(h:P:=by rw[World.drewN_drewN]):P:=h
theorem sc{P:Prop}(h:P:=by simp[Value.oneCell']):P:=h
theorem ml{P:Prop}(h:P:=by unfold maxLen;omega):P:=h
theorem U5{P:Prop}(h:P:=by show _<=_;omega):P:=h
theorem U7{P:Prop}(h:P:=by show _=_;simp):P:=h
theorem dk{P:Prop}(h:P:=by decide +kernel):P:=h
theorem U1{P:Prop}(h:P:=by kernel_rfl):P:=h
theorem so{P:Prop}(h:P:=by simp;omega):P:=h
theorem am{P:Prop}(h:P:=by assumption):P:=h
theorem U3{P:Prop}(h:P:=by go_num):P:=h
theorem dc{P:Prop}(h:P:=by decide):P:=h
theorem U0{P:Prop}(h:P:=by omega):P:=h
theorem U2{P:Prop}(h:P:=by simp):P:=h
end Go.Proofs.YtkcdlealipfnbaaGreat
namespace Go.Proofs.YtkcdlealipfnbaaGreat
open Go.RowKit
section
variable {P:Program}
theorem qaH{d:Array Oper}{rest:List Oper}{o:Oper}{a:Act}{Q:Exit->Act->Wo->Prop}(g:o.guard=none)(f:TypeId)(x y:Operand)(k:o.op=.store f x y)(w:Wo)(c b:Array Value)(m:a.eval x=zP w.heap.size)(n:a.eval y=.agg b)(j:(P.info? f).map (·.size)=some b.size)(l:c.size=b.size)(i:b.all (·.oneCell')=true)(h:wpList P d Q rest (a.put o.dst undef) (w.alloc (.cells b f))):wpList P d Q (o :: rest) a (w.alloc (.cells c f)):=
 wpList_plain g fun _ hK=>by
  unfold Oper.wp execOp
  simp only[k,m,n,Sem.run_bind,run_storeAt_new w f c b j l i,Result.andThen_ok,Sem.run_pure]
  exact hK _ _ h
end
theorem qaG{k:IntKind}{a b:Int}(h:a=b):Ending.returned (.int k a)=.returned (.int k b):=by rw[h]
theorem qaN{a b:Bool}(h:a=b):Ending.returned (.bool a)=.returned (.bool b):=by rw[h]
theorem qaB{B:Nat}{a w:Wo}(h:Below B a w)(n:Nat):Below B a (w.drewN n):=⟨h.os,h.tape,h.output,h.size,h.block⟩
theorem qaR{B:Nat}{a w:Wo}(h:Below B a w){g:Nat}(b:B<=g)(cs:Array Value):Below B a (w.setRow g cs):=
 h.trans ⟨rfl,rfl,rfl,U2,fun k hk=>setRow_other w g k cs U0⟩
end Go.Proofs.YtkcdlealipfnbaaGreat
namespace Go.Proofs.YtkcdlealipfnbaaGreat
section
variable {P:Program} {ops:Array Oper} {md:Region.Mode} {S:Wo->Prop}
def ResS(P:Program)(S:Wo->Prop)(v:Value):Result Next->Prop
 |.ok (.value u) w'=>u=v/\S w'
 |.ok .skip w'=>v=undef/\S w'
 |.ok (.enter f args) w'=>Calls P f args w' (fun e w''=>e=.returned v/\S w'')
 |_=>False
def YieldsS(P:Program)(ops:Array Oper)(S:Wo->Prop)(o:Oper)(v:Value)(a:Act):Prop:=
 (Region.wanted o (yielded ops a.tmps)=true/\∀w,S w->ResS P S v ((execOp a.eval o).run P w))\/
 (Region.wanted o (yielded ops a.tmps)=false/\v=undef)
theorem YieldsS.of_same{o:Oper}{v:Value}{a b:Act}(f:YieldsS P ops S o v a)(c:execOp b.eval o=execOp a.eval o)(d:Region.wanted o (yielded ops b.tmps)=Region.wanted o (yielded ops a.tmps)):YieldsS P ops S o v b:=by unfold YieldsS at *;rw[c,d];exact f
def wpKeep(P:Program)(ops:Array Oper)(S:Wo->Prop)(Q:Act->Prop):List Oper->Act->Prop
 |[],a=>Q a
 |o :: rest,a=>∃v,YieldsS P ops S o v a/\wpKeep P ops S Q rest (a.put o.dst v)
def kOp(P:Program)(ops:Array Oper)(S:Wo->Prop)(i:Nat)(K:Act->Prop)(a:Act):Prop:=
 match ops[i]? with
 |none=>K a
 |some o=>∃v,YieldsS P ops S o v a/\K (a.put o.dst v)
theorem kOp_mono{i:Nat}{a:Act}{K f:Act->Prop}(h:∀a,K a->f a)(d:kOp P ops S i K a):kOp P ops S i f a:=by
 unfold kOp at *;split
 . rename_i ho;simp only[ho] at d;exact h _ d
 . rename_i o ho;simp only[ho] at d;obtain⟨v,b,c⟩:=d;exact⟨v,b,h _ c⟩
theorem wpOp_of_kOp{i:Nat}{a:Act}{w:Wo}{K:Act->Prop}{p:Act->Wo->Prop}{Q':Exit->Act->Wo->Prop}(h:∀ a w,S w->K a->p a w)(m:S w)(l:kOp P ops S i K a):wpOp P ops Q' i p a w:=by
 unfold kOp at l;unfold wpOp;split
 . rename_i ho;simp only[ho] at l;exact h _ _ m l
 . rename_i o ho;simp only [ho] at l;obtain ⟨v,k,d⟩:=l;rcases k with ⟨g,j⟩|⟨g,rfl⟩
   . simp only [g,if_true];refine .inl ?_;have b:=j w m;unfold Oper.wp;generalize (execOp a.eval o).run P w=r at *;cases r with
     |ok n w'=>
      cases n<;>simp only[ResS] at b<;>simp only[Oper.upon];case value u=>obtain⟨rfl,c⟩:=b;exact h _ _ c d
      case skip=>obtain⟨rfl,c⟩:=b;exact h _ _ c d
      case enter f args=>exact b.mono fun e w'' ⟨he,c⟩=>by subst he;exact h _ _ c d
     |halt x w'=>simp only[ResS] at b
   . simp only[g];exact h _ _ m d
theorem kOp_put{j:Nat}{k l:Oper}{v:Value}(p:ops[j]?=some l)(m:k.apart ops l=true)(n:∀cs b,k.op≠.select cs b)(o:∀cs b,l.op≠.select cs b){K:Act->Prop}{a:Act}(q:YieldsS P ops S k v a)(h:kOp P ops S j K (a.put k.dst v)):
 kOp P ops S j (fun a'=>YieldsS P ops S k v a'/\K (a'.put k.dst v)) a:=by obtain⟨c,f,d⟩:=Oper.apart_spec m;unfold kOp at *;simp only[p] at *;obtain⟨u,i,g⟩:=h;refine⟨u,i.of_same (execOp_put l o a k.dst v c).symm (wanted_put l a k.dst v c).symm,q.of_same (execOp_put k n a l.dst u d) (wanted_put k a l.dst u d),?_⟩;rw[<- Act.put_comm a v u f];exact g
def wpAnyK(P:Program)(md:Region.Mode)(ops:Array Oper)(S:Wo->Prop)(Q:Act->Prop):Nat->Array Bool->Act->Prop
 |0,listed,a=>Region.ready md ops listed=[]/\Q a
 |fuel + 1,listed,a=>
   (Region.ready md ops listed=[]->Q a)/\
   ∀i∈Region.ready md ops listed,kOp P ops S i (wpAnyK P md ops S Q fuel (listed.setIfInBounds i true)) a
theorem wpAny_of_keep{Q:Act->Prop}{Q':Exit->Act->Wo->Prop}(b:∀a w,S w->Q a->Q' .normal a w):∀(fuel:Nat)(listed:Array Bool)(a:Act)(w:Wo),S w->
 wpAnyK P md ops S Q fuel listed a->wpAny P md ops Q' fuel listed a w
 |0,_,_,_,hS,h=>⟨h.1,b _ _ hS h.2⟩
 |fuel+1,_,_,_,hS,h=>⟨fun h0=>b _ _ hS (h.1 h0),fun i hi=>wpOp_of_kOp (fun a' w' hs=>wpAny_of_keep b fuel _ a' w' hs) hS (h.2 i hi)⟩
theorem wpAnyK_first{Q:Act->Prop}{i:Nat}{y:Oper}{v:Value}(z:ops[i]?=some y)(x:∀ (j:Nat)(o:Oper) cs b,ops[j]?=some o->o.op≠.select cs b):
 ∀(fuel:Nat)(listed:Array Bool)(a:Act),
  (∀j oj,ops[j]?=some oj->j≠i->listed.getD j true=false->(∀e∈oj.after,Region.binds md e=true->e.on≠i)->y.apart ops oj=true)->
  i∈Region.ready md ops listed->YieldsS P ops S y v a->
  wpAnyK P md ops S Q fuel (listed.setIfInBounds i true) (a.put y.dst v)->wpAnyK P md ops S Q (fuel+1) listed a:=by
 intro fuel;induction fuel with
 |zero=>
  intro listed a _ n s H;refine⟨fun h=>(by rw[h] at n;cases n),fun j hj=>?_⟩;by_cases c:j=i
  . subst c;unfold kOp;simp only[z];exact⟨v,s,H⟩
  . have:=ready_mono hj c;rw[H.1] at this;cases this
 | succ fuel ih =>
  intro listed a d n s H;refine⟨fun h=>(by rw[h] at n;cases n),fun j hj=>?_⟩;by_cases c:j=i
  . subst c;unfold kOp;simp only[z];exact⟨v,s,H⟩
  . have l := H.2 j (ready_mono hj c);obtain ⟨g,oj,m,p⟩:=mem_ready.1 hj;have r:∀ e∈oj.after,Region.binds md e=true->e.on≠i:=fun e he hb heq=>by
     have l:=p e he hb;have t:=(mem_ready.1 n).1;rw[heq] at l;rcases Nat.lt_or_ge i listed.size with h'|h'
     . simp[h'] at t l;rw[t] at l;cases l
     . simp[Array.getElem?_eq_none h'] at l
    have u:=kOp_put m (d j oj m c g r) (fun cs b=>x i y cs b z) (fun cs b=>x j oj cs b m) s l
    have f:∀k ok,ops[k]?=some ok->k≠i->(listed.setIfInBounds j true).getD k true=false->
     (∀e∈ok.after,Region.binds md e=true->e.on≠i)->y.apart ops ok=true:=fun k ok hk hki hun hno=>by
     refine d k ok hk hki ?_ hno
     by_cases q:j=k
     . subst q;exact g
     . rw[getD_set_ne true q] at hun;exact hun
    refine kOp_mono (fun a' h3=>ih (listed.setIfInBounds j true) a' f (ready_mono n (Ne.symm c)) h3.1 ?_) u;rw[Array.setIfInBounds_comm _ _ c];exact h3.2
theorem wpAnyK_lex{Q:Act->Prop}(i:Region.noSelect ops=true):∀ (l:List Oper)(k:Nat)(listed:Array Bool)(a:Act),(∀ j,l[j]?=ops[k+j]?) ->
 Region.lexFrom md ops l.length k listed=true->wpKeep P ops S Q l a->wpAnyK P md ops S Q l.length listed a
 |[],_,_,_,_,hB,h=>⟨by simpa[Region.lexFrom] using hB,h⟩
 | o :: l,k,listed,a,hl,hB,h => by
   have h0:ops[k]?=some o:=by simpa using(hl 0).symm
   simp only[List.length_cons,Region.lexFrom,Bool.and_eq_true] at hB
   obtain⟨⟨f,d⟩,b⟩:=hB
   obtain⟨v,g,c⟩:=h
   exact wpAnyK_first h0 (Region.noSelect_spec i) l.length listed a (Region.free_spec h0 d) (by simpa using f) g
    (wpAnyK_lex i l (k+1) _ _ (fun j=>by have:=hl (j+1);simpa[Nat.add_assoc,Nat.add_comm 1 j] using this) b c)
theorem qaD{i:Nat}{Q:Exit->Act->Wo->Prop}{a:Act}{w:Wo}{l:List Oper}(S:Wo->Prop)(g:P.follows .mixedOrders=true)(d:Region.lexB .any l.toArray=true)(f:S w.drew)(h:wpKeep P l.toArray S (fun a'=>∀w',S w'->Q .normal a' w') l a):(Code.region i l.toArray true).wp P Q a w:=by simp only[Region.lexB,Bool.and_eq_true] at d;refine wp_region_any g ?_;have b:=wpAnyK_lex (md:=.any) (S:=S) d.1 l 0 (Array.replicate l.toArray.size false) a U2 (by simpa using d.2) h;have c:=wpAny_of_keep (Q':=Q) (fun a w hs hq=>hq w hs) _ _ a { w with drawn:=w.drawn+1 } f b;simpa using c
def wpAnyKL(P:Program)(md:Region.Mode)(ops:Array Oper)(S:Wo->Prop)(n:Nat)(L:Array Bool->Act->Prop):Nat->Array Bool->Act->Prop
 |0,listed,a=>L listed a
 |f + 1,listed,a=>
   Region.ready md ops listed≠[]/\∀i∈Region.ready md ops listed,i<n/\kOp P ops S i (wpAnyKL P md ops S n L f (listed.setIfInBounds i true)) a
theorem qeD{n g:Nat}{L:Array Bool->Act->Prop}{Q':Exit->Act->Wo->Prop}(b:∀ listed a w,S w->L listed a->wpAny P md ops Q' g listed a w):
 ∀(f:Nat)(listed:Array Bool)(a:Act)(w:Wo),S w->wpAnyKL P md ops S n L f listed a->wpAny P md ops Q' (f+g) listed a w
 |0,listed,a,w,hS,h=>by rw[Nat.zero_add];exact b _ _ _ hS h
 |f + 1,listed,a,w,hS,h=>by
   rw[show f+1+g=(f+g)+1 by omega]
   exact⟨fun h0=>absurd h0 h.1,fun i hi=>wpOp_of_kOp (fun a' w' hs h'=>qeD b f _ a' w' hs h') hS (h.2 i hi).2⟩
theorem wpAnyKL_first{n i:Nat}{C:Oper}{v:Value}{L:Array Bool->Act->Prop}(E:ops[i]?=some C)(A:∀ (j:Nat)(o:Oper) cs b,ops[j]?=some o->o.op≠.select cs b)(K:Region.sinkB md ops n=true)(I:Region.chainB md ops n=true)(J:n<ops.size)(D:i<n)(B:∀ listed a,L listed a->∀ j∈Region.ready md ops listed,n<=j):
 ∀(f:Nat)(listed:Array Bool)(a:Act),HeadInv md ops n listed->
  (∀j oj,ops[j]?=some oj->j≠i->listed.getD j true=false->(∀e∈oj.after,Region.binds md e=true->e.on≠i)->C.apart ops oj=true)->
  i∈Region.ready md ops listed->YieldsS P ops S C v a->
  wpAnyKL P md ops S n L f (listed.setIfInBounds i true) (a.put C.dst v)->wpAnyKL P md ops S n L (f+1) listed a:=by
 intro f;induction f with
 |zero=>
  intro listed a inv _ q y H;have d:=(mem_ready.1 q).1;refine⟨fun h=>(by rw[h] at q;cases q),fun j hj=>?_⟩;have m:j<n:=by
   rcases Nat.lt_or_ge j n with h|h
   . exact h
   . exact absurd hj (tail_waits K I J inv _ i rfl D d j h)
  refine⟨m,?_⟩;by_cases c:j=i
  . subst c;unfold kOp;simp only[E];exact⟨v,y,H⟩
  . have:=B _ _ H j (ready_mono hj c);omega
 | succ f ih =>
  intro listed a inv g q y H;have d:=(mem_ready.1 q).1;refine⟨fun h=>(by rw[h] at q;cases q),fun j hj=>?_⟩;have m:j<n:=by
   rcases Nat.lt_or_ge j n with h|h
   . exact h
   . exact absurd hj (tail_waits K I J inv _ i rfl D d j h)
  refine⟨m,?_⟩;by_cases c:j=i
  . subst c;unfold kOp;simp only[E];exact⟨v,y,H⟩
  . have x := (H.2 j (ready_mono hj c)).2;obtain ⟨p,oj,r,s⟩:=mem_ready.1 hj;(have u:∀ e∈oj.after,Region.binds md e=true->e.on≠i:=fun e he hb heq=>by have x:=s e he hb;rw [heq,getD_both d] at x;cases x);have z:=kOp_put r (g j oj r c p u) (fun cs b=>A i C cs b E) (fun cs b=>A j oj cs b r) y x
    have l:∀k ok,ops[k]?=some ok->k≠i->(listed.setIfInBounds j true).getD k true=false->
     (∀e∈ok.after,Region.binds md e=true->e.on≠i)->C.apart ops ok=true:=fun k ok hk hki d hno=>by
     refine g k ok hk hki ?_ hno
     by_cases t:j=k
     . subst t;exact p
     . rw[getD_set_ne true t] at d;exact d
    refine kOp_mono (fun a' h3=>ih (listed.setIfInBounds j true) a' (inv.set hj m) l (ready_mono q (Ne.symm c)) h3.1 ?_) z;rw[Array.setIfInBounds_comm _ _ c];exact h3.2
theorem wpAnyKL_lex{n g:Nat}{s:Act->Prop}(r:Region.noSelect ops=true)(x:Region.sinkB md ops n=true)(t:Region.chainB md ops n=true)(u:n<ops.size):
 ∀(l:List Oper)(k:Nat)(listed:Array Bool)(a:Act),(∀j,j<l.length->l[j]?=ops[k+j]?)->k+l.length=n->HeadInv md ops n listed->
 Region.lexHead md ops g l.length k listed=true->wpKeep P ops S s l a->
 wpAnyKL P md ops S n (fun listed' a'=>Region.seqB md ops g n listed'=true/\s a') l.length listed a
 |[],k,listed,a,_,hk,_,hB,h=>by
   have:k=n:=by simpa using hk
   subst this
   exact⟨by simpa[Region.lexHead] using hB,h⟩
 | o :: l,k,listed,a,hl,hk,inv,hB,h => by
   have f:ops[k]?=some o:=by simpa using(hl 0 U2).symm
   simp only[List.length_cons,Region.lexHead,Bool.and_eq_true] at hB
   obtain⟨⟨p,m⟩,d⟩:=hB
   have b:k<n:=by simp only[List.length_cons] at hk;omega
   have c:k∈Region.ready md ops listed:=by simpa using p
   obtain⟨v,q,i⟩:=h
   exact wpAnyKL_first f (Region.noSelect_spec r) x t u b (fun listed' a' hL=>seqB_ready hL.1) l.length listed a inv (Region.free_spec f m) c q
    (wpAnyKL_lex r x t u l (k+1) _ _ (fun j hj=>by have:=hl (j+1) so;simpa[Nat.add_assoc,Nat.add_comm 1 j] using this) (by simp only[List.length_cons] at hk;omega) (inv.set c b) d i)
theorem qaI{v:Nat}{Q:Exit->Act->Wo->Prop}{a:Act}{w:Wo}{l:List Oper}(n:Nat)(S:Wo->Prop)(u:P.follows .mixedOrders=true)(r:Region.lexTailB .any l.toArray n=true)(s:S w.drew)(h:wpKeep P l.toArray S (fun a'=>∀w',S w'->wpList P l.toArray Q (l.drop n) a' w') (l.take n) a):(Code.region v l.toArray true).wp P Q a w:=by
 simp only[Region.lexTailB,Bool.and_eq_true,decide_eq_true_eq] at r;obtain⟨⟨⟨⟨f,m⟩,q⟩,o⟩,d⟩:=r;have p:n<l.length:=by simpa using m
 have b:(l.take n).length=n:=so;have c:(l.drop n).length=l.toArray.size-n:=U2
 have i:HeadInv .any l.toArray n (Array.replicate l.toArray.size false):=
  ⟨U2,fun j oj _ hl=>(by rw[getD_replicate_false] at hl;cases hl),fun t _ ht=>getD_in (by simpa using ht) (getD_replicate_false _ _)⟩
 have H:=wpAnyKL_lex (md:=.any) (S:=S) (g:=l.toArray.size-n) f q o m (l.take n) 0 _ a (fun j hj=>by
  have k:j<n:=by rw[b] at hj;exact hj
  simp[k]) (by simpa using b) i (by rw[b];exact d) h
 refine wp_region_any u ?_
 have:=qeD (Q':=Q) (g:=l.toArray.size-n) (fun listed a' w' hs' hL=>by
  have:=wpAny_of_seq (md:=.any) (Q':=Q) (l.drop n) n listed a' w' (fun j=>by simp[List.getElem?_drop]) (by rw[c];exact hL.1) (hL.2 w' hs')
  rwa [c] at this) _ _ a { w with drawn:=w.drawn+1 } s H
 rw[b,show n+(l.toArray.size-n)=l.toArray.size by omega] at this;exact this
theorem qaE{Q:Act->Prop}{a:Act}(h:Q a):wpKeep P ops S Q [] a:=h
theorem qaJ{Q:Act->Prop}{a:Act}{o:Oper}{rest:List Oper}{v:Value}(b:o.guard=none)(c:∀w,S w->(execOp a.eval o).run P w=.ok (.value v) w)(h:wpKeep P ops S Q rest (a.put o.dst v)):wpKeep P ops S Q (o :: rest) a:=
 ⟨v,.inl ⟨by simp[Region.wanted,b],fun w hS=>by rw[c w hS];exact⟨rfl,hS⟩⟩,h⟩
theorem qaO{Q:Act->Prop}{a:Act}{o:Oper}{rest:List Oper}{v:Value}{f:FuncId}{args:Array Value}(c:o.guard=none)(d:∀w,S w->(execOp a.eval o).run P w=.ok (.enter f args) w)(b:∀w,S w->Calls P f args w fun e w'=>e=.returned v/\S w')(h:wpKeep P ops S Q rest (a.put o.dst v)):wpKeep P ops S Q (o :: rest) a:=
 ⟨v,.inl ⟨by simp[Region.wanted,c],fun w hS=>by rw[d w hS];exact b w hS⟩,h⟩
theorem qbD{Q:Act->Prop}{a:Act}{o:Oper}{rest:List Oper}{v:Value}(b:Region.wanted o (yielded ops a.tmps)=true)(c:∀w,S w->(execOp a.eval o).run P w=.ok (.value v) w)(h:wpKeep P ops S Q rest (a.put o.dst v)):wpKeep P ops S Q (o :: rest) a:=
 ⟨v,.inl ⟨b,fun w hS=>by rw[c w hS];exact⟨rfl,hS⟩⟩,h⟩
theorem qcG{Q:Act->Prop}{a:Act}{o:Oper}{rest:List Oper}{v:Value}{f:FuncId}{args:Array Value}(c:Region.wanted o (yielded ops a.tmps)=true)(d:∀w,S w->(execOp a.eval o).run P w=.ok (.enter f args) w)(b:∀w,S w->Calls P f args w fun e w'=>e=.returned v/\S w')(h:wpKeep P ops S Q rest (a.put o.dst v)):wpKeep P ops S Q (o :: rest) a:=
 ⟨v,.inl ⟨c,fun w hS=>by rw[d w hS];exact b w hS⟩,h⟩
theorem qbI{Q:Act->Prop}{a:Act}{o:Oper}{rest:List Oper}(b:Region.wanted o (yielded ops a.tmps)=false)(h:wpKeep P ops S Q rest (a.put o.dst undef)):wpKeep P ops S Q (o :: rest) a:=
 ⟨undef,.inr ⟨b,rfl⟩,h⟩
end
section
variable {P:Program} {ops:Array Oper} {md:Region.Mode} {S:Wo->Prop} {Q:Exit->Act->Wo->Prop} {n g:Nat}
def wpAnyHL(P:Program)(md:Region.Mode)(ops:Array Oper)(Q:Exit->Act->Wo->Prop)(S:Wo->Prop)(n:Nat)(L:Array Bool->Act->Wo->Prop):Nat->Array Bool->Act->Wo->Prop
 |0,listed,a,w=>L listed a w
 |f + 1,listed,a,w=>
   Region.ready md ops listed≠[]/\∀i∈Region.ready md ops listed,i<n/\wpOp P ops Q i (fun a' w'=>S w'/\wpAnyHL P md ops Q S n L f (listed.setIfInBounds i true) a' w') a w
theorem wpAny_of_HL{L:Array Bool->Act->Wo->Prop}(b:∀ listed a w,L listed a w->wpAny P md ops Q g listed a w):
 ∀(f:Nat)(listed:Array Bool)(a:Act)(w:Wo),wpAnyHL P md ops Q S n L f listed a w->wpAny P md ops Q (f+g) listed a w
 |0,listed,a,w,h=>by rw[Nat.zero_add];exact b _ _ _ h
 |f + 1,listed,a,w,h=>by
   rw[show f+1+g=(f+g)+1 by omega]
   exact⟨fun h0=>absurd h0 h.1,fun i hi=>wpOp_mono (fun a' w' h'=>wpAny_of_HL b f _ a' w' h'.2) (h.2 i hi).2⟩
theorem wpAnyHL_first{i:Nat}{E:Oper}{v:Value}{L:Array Bool->Act->Wo->Prop}(J:ops[i]?=some E)(C:∀ (j:Nat)(o:Oper) cs b,ops[j]?=some o->o.op≠.select cs b)(N:Region.sinkB md ops n=true)(K:Region.chainB md ops n=true)(M:n<ops.size)(I:i<n)(D:∀ listed a w,L listed a w->∀ j∈Region.ready md ops listed,n<=j)(O:∀ c a w,Q (.panic c) (a.put E.dst v) w->Q (.panic c) a w):
 ∀(f:Nat)(listed:Array Bool)(a:Act)(w:Wo),HeadInv md ops n listed->
  (∀j oj,ops[j]?=some oj->j≠i->listed.getD j true=false->(∀e∈oj.after,Region.binds md e=true->e.on≠i)->E.apart ops oj=true)->
  i∈Region.ready md ops listed->YieldsIf P ops S E v a->S w->
  wpAnyHL P md ops Q S n L f (listed.setIfInBounds i true) (a.put E.dst v) w->wpAnyHL P md ops Q S n L (f+1) listed a w:=by
 intro f;induction f with
 |zero=>
  intro listed a w inv _ r A t H;have g:=(mem_ready.1 r).1;refine⟨fun h=>(by rw[h] at r;cases r),fun j hj=>?_⟩;have p:j<n:=by
   rcases Nat.lt_or_ge j n with h|h
   . exact h
   . exact absurd hj (tail_waits N K M inv _ i rfl I g j h)
  refine⟨p,?_⟩;by_cases d:j=i
  . subst d;exact A.wpOp J t ⟨t,H⟩
  . have:=D _ _ _ H j (ready_mono hj d);omega
 | succ f ih =>
  intro listed a w inv l r A t H;have g:=(mem_ready.1 r).1;refine⟨fun h=>(by rw[h] at r;cases r),fun j hj=>?_⟩;have p:j<n:=by
   rcases Nat.lt_or_ge j n with h|h
   . exact h
   . exact absurd hj (tail_waits N K M inv _ i rfl I g j h)
  refine⟨p,?_⟩;by_cases d:j=i
  . subst d;exact A.wpOp J t ⟨t,H⟩
  . have z := (H.2 j (ready_mono hj d)).2;obtain ⟨q,oj,s,u⟩:=mem_ready.1 hj;(have y:∀ e∈oj.after,Region.binds md e=true->e.on≠i:=fun e he hb heq=>by have z:=u e he hb;rw [heq,getD_both g] at z;cases z);have B:=wpOp_putIf s (l j oj s d q y) (fun cs b=>C i E cs b J) (fun cs b=>C j oj cs b s) O A z
    have m:∀k ok,ops[k]?=some ok->k≠i->(listed.setIfInBounds j true).getD k true=false->
     (∀e∈ok.after,Region.binds md e=true->e.on≠i)->E.apart ops ok=true:=fun k ok hk hki g hno=>by
     refine l k ok hk hki ?_ hno
     by_cases x:j=k
     . subst x;exact q
     . rw[getD_set_ne true x] at g;exact g
    refine wpOp_mono (fun a' w' h3=>⟨h3.2.1,ih (listed.setIfInBounds j true) a' w' (inv.set hj p) m (ready_mono r (Ne.symm d)) h3.1 h3.2.1 ?_⟩) B;rw[Array.setIfInBounds_comm _ _ d];exact h3.2.2
theorem qaX{o:Oper}(b:o.guard=none)(t:Nat->Option Bool):Region.wanted o t=true:=by simp[Region.wanted,b]
def wpMix(P:Program)(S:Wo->Prop)(K:Act->Wo->Prop):List (Bool × Oper)->Act->Wo->Prop
 |[],a,w=>K a w
 |(true,o):: r,a,w=>∃v,(o.guard=none/\∀w,S w->(execOp a.eval o).run P w=.ok (.value v) w)/\wpMix P S K r (a.put o.dst v) w
 | (false,o) :: r,a,w => o.guard = none /\ ((∃ f args,(execOp a.eval o).run P w = .ok (.enter f args) w /\ Calls P f args w fun e w' => ∃ u,e = .returned u /\ S w' /\ wpMix P S K r (a.put o.dst u) w') \/
     (∃v w',(execOp a.eval o).run P w=.ok (.value v) w'/\S w'/\wpMix P S K r (a.put o.dst v) w'))
theorem qeJ{K:Act->Wo->Prop}{a:Act}{w:Wo}(h:K a w):wpMix P S K [] a w:=h
theorem qcH{K:Act->Wo->Prop}{o:Oper}{r:List (Bool × Oper)}{v:Value}{a:Act}{w:Wo}(b:o.guard=none)(c:∀w,S w->(execOp a.eval o).run P w=.ok (.value v) w)(h:wpMix P S K r (a.put o.dst v) w):wpMix P S K ((true,o):: r) a w:=⟨v,⟨b,c⟩,h⟩
theorem qcS{K:Act->Wo->Prop}{a:Act}{w:Wo}{o:Oper}{r:List (Bool × Oper)}(j:o.guard=none)(f:TypeId)(x:Operand)(l:o.op=.load f x)(b c:Nat)(p:a.eval x=.pointer (some (zA b c)))(cs:List Value)(d:TypeDesc)(i:∀w,S w->w.rangeAt b c cs)(m:P.underlying f=some d)(hd:d.isRow=true)(k:(P.info? f).map (·.size)=some cs.length)(h:wpMix P S K r (a.put o.dst (.agg cs.toArray)) w):wpMix P S K ((true,o):: r) a w:=by refine qcH j (fun W hW=>?_) h;unfold execOp;simp only[l,p,Instr.loadAt,Instr.sureAddr,Sem.run_bind,Sem.run_pure,Result.andThen_ok,run_loadVar_mid W b c f cs d (i W hW) m hd k]
theorem qcE{K:Act->Wo->Prop}{o:Oper}{r:List (Bool × Oper)}{f:FuncId}{args:Array Value}{a:Act}{w:Wo}(b:o.guard=none)(c:(execOp a.eval o).run P w=.ok (.enter f args) w)(h:Calls P f args w fun e w'=>∃u,e=.returned u/\S w'/\wpMix P S K r (a.put o.dst u) w'):wpMix P S K ((false,o):: r) a w:=⟨b,.inl ⟨f,args,c,h⟩⟩
def Region.mixB(md:Region.Mode)(ops:Array Oper)(n g:Nat):List (Bool × Nat)->Array Bool->Bool
 |[],listed=>Region.seqB md ops g n listed
 |(true,k):: r,listed=>(Region.ready md ops listed).contains k && Region.free md ops listed k && decide (k<n) && Region.mixB md ops n g r (listed.setIfInBounds k true)
 |(false,k):: r,listed=>decide (Region.ready md ops listed=[k]) && decide (k<n) && Region.mixB md ops n g r (listed.setIfInBounds k true)
def Region.mixTailB(md:Region.Mode)(ops:Array Oper)(n:Nat)(ord:List (Bool × Nat)):Bool:=
 Region.noSelect ops && decide (n<ops.size) && Region.sinkB md ops n && Region.chainB md ops n && decide (ord.length=n) && Region.mixB md ops n (ops.size-n) ord (Array.replicate ops.size false)
theorem qdG{l:List Oper}{d:Oper}{M:Act->Wo->Prop}(H:ops=l.toArray)(E:Region.noSelect ops=true)(L:Region.sinkB md ops n=true)(K:Region.chainB md ops n=true)(I:n<ops.size)(J:∀ c (a:Act) (dst:Option Tmp) v w,Q (.panic c) (a.put dst v) w->Q (.panic c) a w):
 ∀(ord:List (Bool × Nat))(listed:Array Bool)(a:Act)(w:Wo),HeadInv md ops n listed->Region.mixB md ops n g ord listed=true->S w->wpMix P S M (ord.map fun x=>(x.1,l.getD x.2 d)) a w->
  wpAnyHL P md ops Q S n (fun listed' a' w'=>Region.seqB md ops g n listed'=true/\M a' w') ord.length listed a w
 |[],listed,a,w,_,hB,_,h=>⟨hB,h⟩
 | (true,k) :: r,listed,a,w,inv,hB,hS,h => by
   simp only[Region.mixB,Bool.and_eq_true,decide_eq_true_eq] at hB
   obtain⟨⟨⟨hr,hf⟩,hkn⟩,hB'⟩:=hB
   have s:k∈Region.ready md ops listed:=by simpa using hr
   obtain⟨v,⟨z,D⟩,C⟩:=h
   have t:ops[k]?=some (l.getD k d):=by
    have p:k<l.length:=by have:=I;rw[H] at this;simp at this;omega
    rw[H]
    simp[List.getD,p]
   exact wpAnyHL_first t (Region.noSelect_spec E) L K I hkn (fun listed' a' w' hL=>seqB_ready hL.1) (fun c a w=>J c a _ v w) r.length listed a w inv (Region.free_spec t hf) s (.inl ⟨qaX z _,D⟩) hS
    (qdG H E L K I J r _ _ _ (inv.set s hkn) hB' hS C)
 | (false,k) :: r,listed,a,w,inv,hB,hS,h => by
   simp only[Region.mixB,Bool.and_eq_true,decide_eq_true_eq] at hB
   obtain⟨⟨hr,hkn⟩,hB'⟩:=hB
   obtain⟨z,o⟩:=h
   have t:ops[k]?=some (l.getD k d):=by
    have p:k<l.length:=by have:=I;rw[H] at this;simp at this;omega
    rw[H]
    simp[List.getD,p]
   refine⟨fun h0=>(by rw[hr] at h0;cases h0),fun j hj=>?_⟩
   have q:=hj
   rw[hr] at hj
   have A:j=k:=by simpa using hj
   subst A
   refine⟨hkn,?_⟩
   unfold wpOp
   simp only[t]
   rw[if_pos (qaX z _)]
   refine .inl ?_
   unfold Oper.wp
   rcases o with⟨f,B,i,m⟩|⟨v,w',i,b,y⟩
   . rw [i]
     exact m.mono fun e w' ⟨u,he,b,y⟩=>by
      subst he
      exact⟨b,qdG H E L K I J r _ _ _ (inv.set q hkn) hB' b y⟩
   . rw[i]
     exact⟨b,qdG H E L K I J r _ _ _ (inv.set q hkn) hB' b y⟩
theorem qbM{z:Nat}{a:Act}{w:Wo}{l:List Oper}(n:Nat)(S:Wo->Prop)(q:List (Bool × Nat))(d:Oper)(y:P.follows .mixedOrders=true)(r:Region.mixTailB .any l.toArray n q=true)(s:∀c (a:Act) (dst:Option Tmp) v w,Q (.panic c) (a.put dst v) w->Q (.panic c) a w)(u:S w.drew)(h:wpMix P S (wpList P l.toArray Q (l.drop n)) (q.map fun x=>(x.1,l.getD x.2 d)) a w.drew):(Code.region z l.toArray true).wp P Q a w:=by
 simp only[Region.mixTailB,Bool.and_eq_true,decide_eq_true_eq] at r;obtain⟨⟨⟨⟨⟨f,o⟩,p⟩,m⟩,k⟩,b⟩:=r
 have i:HeadInv .any l.toArray n (Array.replicate l.toArray.size false):=
  ⟨U2,fun j oj _ hl=>(by rw[getD_replicate_false] at hl;cases hl),fun t _ ht=>getD_in (by simpa using ht) (getD_replicate_false _ _)⟩
 have H:=qdG (P:=P) (Q:=Q) (md:=.any) (g:=l.toArray.size-n) rfl f p m o s q _ a w.drew i b u h;refine wp_region_any y ?_
 have:=wpAny_of_HL (g:=l.toArray.size-n) (fun listed' a' w' hL=>by
  have:=wpAny_of_seq (P:=P) (md:=.any) (Q':=Q) (l.drop n) n listed' a' w' (fun j=>by simp[List.getElem?_drop]) (by simpa using hL.1) hL.2
  simpa using this) _ _ a w.drew H
 rw[k,show n+(l.toArray.size-n)=l.toArray.size by omega] at this;exact this
end
section
variable {P:Program} {ops:Array Oper} {md:Region.Mode} {S:Wo->Prop} {Q:Exit->Act->Wo->Prop} {n g s:Nat}
def wpAnyHF(P:Program)(md:Region.Mode)(ops:Array Oper)(Q:Exit->Act->Wo->Prop)(S:Wo->Prop)(n s:Nat)(L:Array Bool->Act->Wo->Prop):Nat->Array Bool->Act->Wo->Prop
 |0,listed,a,w=>L listed a w
 |f + 1,listed,a,w=>
   Region.ready md ops listed≠[]/\∀i∈Region.ready md ops listed,i<n/\wpOp P ops Q i (fun a' w'=>((listed.setIfInBounds i true).getD s false=false->S w')/\wpAnyHF P md ops Q S n s L f (listed.setIfInBounds i true) a' w') a w
theorem qeK{L:Array Bool->Act->Wo->Prop}(b:∀ listed a w,L listed a w->wpAny P md ops Q g listed a w):
 ∀(f:Nat)(listed:Array Bool)(a:Act)(w:Wo),wpAnyHF P md ops Q S n s L f listed a w->wpAny P md ops Q (f+g) listed a w
 |0,listed,a,w,h=>by rw[Nat.zero_add];exact b _ _ _ h
 |f + 1,listed,a,w,h=>by
   rw[show f+1+g=(f+g)+1 by omega]
   exact⟨fun h0=>absurd h0 h.1,fun i hi=>wpOp_mono (fun a' w' h'=>qeK b f _ a' w' h'.2) (h.2 i hi).2⟩
theorem qaQ{b:Array Bool}{i k:Nat}(h:i≠k):(b.setIfInBounds i true).getD k false=b.getD k false:=getD_set_ne false h
theorem qbR{i:Nat}{oi:Oper}{v:Value}{L:Array Bool->Act->Wo->Prop}(hi:ops[i]?=some oi)(X:∀ (j:Nat)(o:Oper) cs b,ops[j]?=some o->o.op≠.select cs b)(hs:Region.sinkB md ops n=true)(hc:Region.chainB md ops n=true)(hn:n<ops.size)(ab:i<n)(aa:i≠s)(Z:∀ listed a w,L listed a w->∀ j∈Region.ready md ops listed,n<=j)(hQ:∀ c a w,Q (.panic c) (a.put oi.dst v) w->Q (.panic c) a w)(T:Wo->Prop)(hT:(∀ w,T w)\/((∀ w,S w->T w)/\(Region.waitsFor md ops s i=true\/n<=s))):
 ∀(f:Nat)(listed:Array Bool)(a:Act)(w:Wo),HeadInv md ops n listed->
  (∀j oj,ops[j]?=some oj->j≠i->listed.getD j true=false->(∀e∈oj.after,Region.binds md e=true->e.on≠i)->oi.apart ops oj=true)->
  i∈Region.ready md ops listed->YieldsIf P ops T oi v a->T w->(listed.getD s false=false->S w)->
  wpAnyHF P md ops Q S n s L f (listed.setIfInBounds i true) (a.put oi.dst v) w->wpAnyHF P md ops Q S n s L (f+1) listed a w:=by
 intro f;induction f with
 |zero=>
  intro listed a w inv _ u M z N H;have g:=(mem_ready.1 u).1;refine⟨fun h=>(by rw[h] at u;cases u),fun j hj=>?_⟩;have m:j<n:=by
   rcases Nat.lt_or_ge j n with h|h
   . exact h
   . exact absurd hj (tail_waits hs hc hn inv _ i rfl ab g j h)
  refine⟨m,?_⟩;by_cases d:j=i
  . subst d;exact M.wpOp hi z ⟨fun h=>N (by rwa [qaQ aa] at h),H⟩
  . have:=Z _ _ _ H j (ready_mono hj d);omega
 | succ f ih =>
  intro listed a w inv l u M z N H;have g:=(mem_ready.1 u).1;refine⟨fun h=>(by rw[h] at u;cases u),fun j hj=>?_⟩;have m:j<n:=by
   rcases Nat.lt_or_ge j n with h|h
   . exact h
   . exact absurd hj (tail_waits hs hc hn inv _ i rfl ab g j h)
  refine⟨m,?_⟩;by_cases d:j=i
  . subst d;exact M.wpOp hi z ⟨fun h=>N (by rwa [qaQ aa] at h),H⟩
  . have K := (H.2 j (ready_mono hj d)).2;obtain ⟨r,oj,q,D⟩:=mem_ready.1 hj;(have t:∀ e∈oj.after,Region.binds md e=true->e.on≠i:=fun e I E heq=>by have K:=D e I E;rw [heq,getD_both g] at K;cases K);have V:=wpOp_putIf q (l j oj q d r t) (fun cs b=>X i oi cs b hi) (fun cs b=>X j oj cs b q) hQ M K
    have p:∀k ok,ops[k]?=some ok->k≠i->(listed.setIfInBounds j true).getD k true=false->
     (∀e∈ok.after,Region.binds md e=true->e.on≠i)->oi.apart ops ok=true:=fun k ok hk hki g hno=>by
     refine l k ok hk hki ?_ hno
     by_cases J:j=k
     . subst J;exact r
     . rw[getD_set_ne true J] at g;exact g
    (have A:((listed.setIfInBounds i true).setIfInBounds j true).getD s false=(listed.setIfInBounds j true).getD s false:=by rw [Array.setIfInBounds_comm _ _ (Ne.symm d),qaQ aa]);refine wpOp_mono (fun a' w' h3=>?_) V;have y:(listed.setIfInBounds j true).getD s false=false->S w':=fun h=>h3.2.1 (by rw [A];exact h);have O:T w':=by
     rcases hT with hT|⟨hT,hw⟩
     . exact hT w'
     . refine hT w' (y ?_);rcases hw with hw|hw;rotate_left
       . have x:=inv.set hj m;rcases Nat.lt_or_ge s ops.size with h|h
         . exact getD_both (x.tail s hw h)
         . (have W:(listed.setIfInBounds j true).size<=s:=by rw[x.size];exact h);simp[Array.getD_eq_getD_getElem?,Array.getElem?_eq_none W]
       (have R:j≠s:=fun e=>by subst e;obtain⟨U,C,e,I,E,B⟩:=Region.waitsFor_spec hw;have:U=oj:=Option.some.inj (C.symm.trans q);subst this;exact t e I E B);rw[qaQ R];cases hls:listed.getD s false with
       |false=>rfl
       |true=>obtain⟨U,C,e,I,E,B⟩:=Region.waitsFor_spec hw;have:=inv.closed s U C hls e I E;rw[B,getD_both g] at this;cases this
    refine⟨y,ih (listed.setIfInBounds j true) a' w' (inv.set hj m) p (ready_mono u (Ne.symm d)) h3.1 O y ?_⟩;rw[Array.setIfInBounds_comm _ _ d];exact h3.2.2
def wpMixF(P:Program)(S:Wo->Prop)(K:Act->Wo->Prop):List (Nat × Oper)->Act->Wo->Prop
 |[],a,w=>K a w
 |(0,o):: r,a,w=>∃v,(o.guard=none/\∀w,S w->(execOp a.eval o).run P w=.ok (.value v) w)/\wpMixF P S K r (a.put o.dst v) w
 |(1,o):: r,a,w=>∃v,(o.guard=none/\∀w,(execOp a.eval o).run P w=.ok (.value v) w)/\wpMixF P S K r (a.put o.dst v) w
 | (2,o) :: r,a,w => o.guard = none /\ ((∃ f args,(execOp a.eval o).run P w = .ok (.enter f args) w /\ Calls P f args w fun e w' => ∃ u,e = .returned u /\ S w' /\ wpMixF P S K r (a.put o.dst u) w') \/
     (∃v w',(execOp a.eval o).run P w=.ok (.value v) w'/\S w'/\wpMixF P S K r (a.put o.dst v) w'))
 |(_,o):: r,a,w=>o.guard=none/\∃w',(execOp a.eval o).run P w=.ok .skip w'/\wpMixF P S K r (a.put o.dst undef) w'
section
variable {K:Act->Wo->Prop} {o:Oper} {r:List (Nat × Oper)} {a:Act} {w:Wo}
theorem qbH(h:K a w):wpMixF P S K [] a w:=h
theorem qbF{v:Value}(b:o.guard=none)(c:∀w,S w->(execOp a.eval o).run P w=.ok (.value v) w)(h:wpMixF P S K r (a.put o.dst v) w):wpMixF P S K ((0,o):: r) a w:=⟨v,⟨b,c⟩,h⟩
theorem qaM{v:Value}(b:o.guard=none)(c:∀w,(execOp a.eval o).run P w=.ok (.value v) w)(h:wpMixF P S K r (a.put o.dst v) w):wpMixF P S K ((1,o):: r) a w:=⟨v,⟨b,c⟩,h⟩
theorem qaT(j:o.guard=none)(f:TypeId)(x:Operand)(l:o.op=.load f x)(b c:Nat)(p:a.eval x=.pointer (some (zA b c)))(cs:List Value)(d:TypeDesc)(i:∀w,S w->w.rangeAt b c cs)(m:P.underlying f=some d)(hd:d.isRow=true)(k:(P.info? f).map (·.size)=some cs.length)(h:wpMixF P S K r (a.put o.dst (.agg cs.toArray)) w):wpMixF P S K ((0,o):: r) a w:=by refine qbF j (fun W hW=>?_) h;unfold execOp;simp only[l,p,Instr.loadAt,Instr.sureAddr,Sem.run_bind,Sem.run_pure,Result.andThen_ok,run_loadVar_mid W b c f cs d (i W hW) m hd k]
theorem qbE{f:FuncId}{args:Array Value}(b:o.guard=none)(c:(execOp a.eval o).run P w=.ok (.enter f args) w)(h:Calls P f args w fun e w'=>∃u,e=.returned u/\S w'/\wpMixF P S K r (a.put o.dst u) w'):wpMixF P S K ((2,o):: r) a w:=⟨b,.inl ⟨f,args,c,h⟩⟩
theorem qdM{v:Value}{w':Wo}(c:o.guard=none)(d:(execOp a.eval o).run P w=.ok (.value v) w')(b:S w')(h:wpMixF P S K r (a.put o.dst v) w'):wpMixF P S K ((2,o):: r) a w:=⟨c,.inr ⟨v,w',d,b,h⟩⟩
theorem mixf_store{w':Wo}(b:o.guard=none)(c:(execOp a.eval o).run P w=.ok .skip w')(h:wpMixF P S K r (a.put o.dst undef) w'):wpMixF P S K ((3,o):: r) a w:=⟨b,w',c,h⟩
end
def Region.mixFB(md:Region.Mode)(ops:Array Oper)(n g s:Nat):List (Nat × Nat)->Array Bool->Bool
 |[],listed=>Region.seqB md ops g n listed
 |(0,k):: r,listed=>(Region.ready md ops listed).contains k && Region.free md ops listed k && decide (k<n) && decide (k≠s) && (Region.waitsFor md ops s k || decide (n<=s)) && !(listed.getD s false) && Region.mixFB md ops n g s r (listed.setIfInBounds k true)
 |(1,k):: r,listed=>(Region.ready md ops listed).contains k && Region.free md ops listed k && decide (k<n) && decide (k≠s) && Region.mixFB md ops n g s r (listed.setIfInBounds k true)
 |(2,k):: r,listed=>decide (Region.ready md ops listed=[k]) && decide (k<n) && Region.mixFB md ops n g s r (listed.setIfInBounds k true)
 |(_,k):: r,listed=>decide (Region.ready md ops listed=[k]) && decide (k<n) && decide (k=s) && (listed.setIfInBounds k true).getD s false && Region.mixFB md ops n g s r (listed.setIfInBounds k true)
def Region.mixFTailB(md:Region.Mode)(ops:Array Oper)(n s:Nat)(ord:List (Nat × Nat)):Bool:=
 Region.noSelect ops && decide (n<ops.size) && Region.sinkB md ops n && Region.chainB md ops n && decide (ord.length=n) && Region.mixFB md ops n (ops.size-n) s ord (Array.replicate ops.size false)
theorem qcV{l:List Oper}{d:Oper}{k:Nat}(c:ops=l.toArray)(h:k<n)(f:n<ops.size):ops[k]?=some (l.getD k d):=by
 have b:k<l.length:=by rw[c] at f;simp at f;omega
 rw[c];simp[List.getD,b]
theorem qbP{l:List Oper}{d:Oper}{T:Act->Wo->Prop}(M:ops=l.toArray)(J:Region.noSelect ops=true)(R:Region.sinkB md ops n=true)(O:Region.chainB md ops n=true)(L:n<ops.size)(N:∀ c (a:Act) (dst:Option Tmp) v w,Q (.panic c) (a.put dst v) w->Q (.panic c) a w):
 ∀(ord:List (Nat × Nat))(listed:Array Bool)(a:Act)(w:Wo),HeadInv md ops n listed->Region.mixFB md ops n g s ord listed=true->(listed.getD s false=false->S w)->wpMixF P S T (ord.map fun x=>(x.1,l.getD x.2 d)) a w->
  wpAnyHF P md ops Q S n s (fun listed' a' w'=>Region.seqB md ops g n listed'=true/\T a' w') ord.length listed a w
 |[],listed,a,w,_,hB,_,h=>⟨hB,h⟩
 | (0,k) :: r,listed,a,w,inv,hB,hS,h => by
   simp only[Region.mixFB,Bool.and_eq_true,Bool.or_eq_true,decide_eq_true_eq,Bool.not_eq_true'] at hB
   obtain⟨⟨⟨⟨⟨⟨hr,hf⟩,hkn⟩,hks⟩,hw⟩,hls⟩,hB'⟩:=hB
   have m:k∈Region.ready md ops listed:=by simpa using hr
   obtain⟨v,⟨z,H⟩,D⟩:=h
   have p:=qcV (d:=d) M hkn L
   exact qbR p (Region.noSelect_spec J) R O L hkn hks (fun listed' a' w' hL=>seqB_ready hL.1) (fun c a w=>N c a _ v w) S (.inr ⟨fun _ h=>h,hw⟩) r.length listed a w inv (Region.free_spec p hf) m (.inl ⟨qaX z _,H⟩) (hS hls) hS
    (qbP M J R O L N r _ _ _ (inv.set m hkn) hB' (fun h=>hS (by rwa [qaQ hks] at h)) D)
 | (1,k) :: r,listed,a,w,inv,hB,hS,h => by
   simp only[Region.mixFB,Bool.and_eq_true,decide_eq_true_eq] at hB
   obtain⟨⟨⟨⟨hr,hf⟩,hkn⟩,hks⟩,hB'⟩:=hB
   have m:k∈Region.ready md ops listed:=by simpa using hr
   obtain⟨v,⟨z,H⟩,D⟩:=h
   have p:=qcV (d:=d) M hkn L
   exact qbR p (Region.noSelect_spec J) R O L hkn hks (fun listed' a' w' hL=>seqB_ready hL.1) (fun c a w=>N c a _ v w) (fun _=>True) (.inl fun _=>trivial) r.length listed a w inv (Region.free_spec p hf) m (.inl ⟨qaX z _,fun w _=>H w⟩) trivial hS
    (qbP M J R O L N r _ _ _ (inv.set m hkn) hB' (fun h=>hS (by rwa [qaQ hks] at h)) D)
 | (2,k) :: r,listed,a,w,inv,hB,hS,h => by
   simp only[Region.mixFB,Bool.and_eq_true,decide_eq_true_eq] at hB
   obtain⟨⟨hr,hkn⟩,hB'⟩:=hB
   obtain⟨z,y⟩:=h
   have p:=qcV (d:=d) M hkn L
   refine⟨fun h0=>(by rw[hr] at h0;cases h0),fun j hj=>?_⟩
   have o:=hj
   rw[hr] at hj
   have A:j=k:=by simpa using hj
   subst A
   refine⟨hkn,?_⟩
   unfold wpOp
   simp only[p]
   rw[if_pos (qaX z _)]
   refine .inl ?_
   unfold Oper.wp
   rcases y with⟨f,I,b,q⟩|⟨v,w',b,i,B⟩
   . rw [b]
     exact q.mono fun e w' ⟨u,he,i,B⟩=>by
      subst he
      exact⟨fun _=>i,qbP M J R O L N r _ _ _ (inv.set o hkn) hB' (fun _=>i) B⟩
   . rw[b]
     exact⟨fun _=>i,qbP M J R O L N r _ _ _ (inv.set o hkn) hB' (fun _=>i) B⟩
 |(t + 3,k):: r,listed,a,w,inv,hB,hS,h=>by
   simp only[Region.mixFB,Bool.and_eq_true,decide_eq_true_eq] at hB
   obtain⟨⟨⟨⟨hr,hkn⟩,hks⟩,E⟩,hB'⟩:=hB
   obtain⟨z,w',b,B⟩:=h
   have p:=qcV (d:=d) M hkn L
   refine⟨fun h0=>(by rw[hr] at h0;cases h0),fun j hj=>?_⟩
   have o:=hj
   rw[hr] at hj
   have A:j=k:=by simpa using hj
   subst A
   refine⟨hkn,?_⟩
   unfold wpOp
   simp only[p]
   rw[if_pos (qaX z _)]
   refine .inl ?_
   unfold Oper.wp
   rw[b]
   have C:(listed.setIfInBounds j true).getD s false=false->S w':=fun h=>by rw[E] at h;cases h
   exact⟨C,qbP M J R O L N r _ _ _ (inv.set o hkn) hB' C B⟩
theorem qaS{B:Nat}{a:Act}{w:Wo}{l:List Oper}(n s:Nat)(S:Wo->Prop)(q:List (Nat × Nat))(d:Oper)(A:P.follows .mixedOrders=true)(u:Region.mixFTailB .any l.toArray n s q=true)(y:∀c (a:Act) (dst:Option Tmp) v w,Q (.panic c) (a.put dst v) w->Q (.panic c) a w)(z:S w.drew)(h:wpMixF P S (wpList P l.toArray Q (l.drop n)) (q.map fun x=>(x.1,l.getD x.2 d)) a w.drew):(Code.region B l.toArray true).wp P Q a w:=by
 simp only[Region.mixFTailB,Bool.and_eq_true,decide_eq_true_eq] at u;obtain⟨⟨⟨⟨⟨f,o⟩,p⟩,m⟩,k⟩,b⟩:=u
 have i:HeadInv .any l.toArray n (Array.replicate l.toArray.size false):=
  ⟨U2,fun j oj _ hl=>(by rw[getD_replicate_false] at hl;cases hl),fun t _ ht=>getD_in (by simpa using ht) (getD_replicate_false _ _)⟩
 have H:=qbP (P:=P) (Q:=Q) (md:=.any) (g:=l.toArray.size-n) rfl f p m o y q _ a w.drew i b (fun _=>z) h;refine wp_region_any A ?_
 have:=qeK (g:=l.toArray.size-n) (fun listed' a' w' hL=>by
  have:=wpAny_of_seq (P:=P) (md:=.any) (Q':=Q) (l.drop n) n listed' a' w' (fun j=>by simp[List.getElem?_drop]) (by simpa using hL.1) hL.2
  simpa using this) _ _ a w.drew H
 rw[k,show n+(l.toArray.size-n)=l.toArray.size by omega] at this;exact this
end
section
variable {P:Program} {ops:Array Oper} {md:Region.Mode} {S:Wo->Prop} {Q:Exit->Act->Wo->Prop} {n g s m:Nat} {F:Fence}
structure NoBar (F:Fence):Prop where
 fn:∀f,F.fn f
 depth:F.depth=none
 fenced:∀(P:Program)(mm:Machine),Machine.fenced P F mm
theorem noBar_wide:NoBar Fence.wide:=⟨fun _=>trivial,rfl,fun P mm=>fenced_wide P mm⟩
theorem NoBar.inRound(h:NoBar F)(l:Nat):NoBar (F.inRound l):=⟨h.fn,h.depth,fun P mm=>h.fenced P mm⟩
theorem NoBar.steps(h:NoBar F){a b:Machine}(c:Steps P a b):StepsIn (Machine.fenced P F) P a b:=(StepsIn.of_steps c).mono fun mm _=>h.fenced P mm
theorem NoBar.calls(h:NoBar F){f:FuncId}{args:Array Value}{w:Wo}{R:Ending->Wo->Prop}(d:Calls P f args w R):CallsIn F m P f args w R :=
 ⟨h.fn f,fun cs _=>by
   obtain⟨e,w',b,r,s,x⟩:=((callsIn_wide (n:=0)).2 d).2 cs (room_wide _)
   refine⟨e,w',b,r,?_,x⟩
   cases e with
   |outgrown=>exact s
   |returned v=>exact StepsIn.mono (fun mm _=>h.fenced P mm) s
   |panicked c=>exact StepsIn.mono (fun mm _=>h.fenced P mm) s⟩
theorem NoBar.rows(h:NoBar F){row:String}{args:Array Value}{w:Wo}{R:Value->Wo->Prop}(b:Rows P row args w R):RowsIn F m P row args w R:=
 fun c cs _=>let ⟨v,w',r,s⟩:=b c cs;⟨v,w',r,h.steps s⟩
theorem NoBar.ask(h:NoBar F)(k:Nat):F.depth.isSome=true->1<=k:=fun hd=>by rw[h.depth] at hd;cases hd
def noDefer(ops:Array Oper):Bool:=ops.all fun o=>match o.op with|.defer _=>false|_=>true
theorem noDefer_at{i:Nat}{o:Oper}(h:noDefer ops=true)(f:ops[i]?=some o):∀c,o.op≠.defer c:=fun c hc=>by
 unfold noDefer at h
 rw[Array.all_eq_true] at h
 obtain⟨b,d⟩:=Array.getElem?_eq_some_iff.1 f
 have:=h i b
 rw[d,hc] at this
 cases this
theorem wpOpIn_of_wpOp{i:Nat}{K k:Act->Wo->Prop}{a:Act}{w:Wo}(j:NoBar F)(hd:noDefer ops=true)(d:∀ a w,K a w->k a w)(h:wpOp P ops (fun _ _ _=>False) i K a w):wpOpIn F m P ops Q i k a w:=by
 unfold wpOp at h;unfold wpOpIn;cases hi:ops[i]? with
 |none=>rw[hi] at h;exact d _ _ h
 | some o =>
  rw[hi] at h;simp only at h ⊢;by_cases b:Region.wanted o (yielded ops a.tmps)=true
  . rw [if_pos b] at h ⊢;rcases h with h|⟨_,_,_,h⟩
    . refine ⟨fun f _ => j.fn f,?_⟩;rw [Oper.semAt_eq _ _ _ (noDefer_at hd hi)];unfold Oper.wp at h;generalize (execOp a.eval o).run P w=r at *;cases r with
      |ok nx w'=>
       cases nx<;>simp only[Oper.upon,Oper.uponIn] at h ⊢;case value=>exact d _ _ h
       case skip=>exact d _ _ h
       case defer=>exact d _ _ h
       case enter f args=>
        refine⟨j.ask m,(j.calls h).mono fun e w'' he=>?_⟩;cases e with
        |returned v=>exact d _ _ he
        |panicked c=>exact he.elim
        |outgrown=>obtain⟨_,_,h⟩:=he;exact h.elim
       case row row args=>exact⟨j.ask m,(j.rows h).mono fun v w'' hv=>d _ _ hv⟩
      |halt x w'=>cases x<;>simp only[Oper.upon] at h
    . exact h.elim
  . rw[if_neg b] at h ⊢;exact⟨fun f _=>j.fn f,d _ _ h⟩
theorem wpAnyIn_of_HF(b:NoBar F)(hd:noDefer ops=true){L:Array Bool->Act->Wo->Prop}(c:∀ listed a w,L listed a w->wpAnyIn F m P md ops Q g listed a w):
 ∀(f:Nat)(listed:Array Bool)(a:Act)(w:Wo),wpAnyHF P md ops (fun _ _ _=>False) S n s L f listed a w->wpAnyIn F m P md ops Q (f+g) listed a w
 |0,listed,a,w,h=>by rw[Nat.zero_add];exact c _ _ _ h
 |f + 1,listed,a,w,h=>by
   rw[show f+1+g=(f+g)+1 by omega]
   exact⟨fun h0=>absurd h0 h.1,fun i hi=>wpOpIn_of_wpOp b hd (fun a' w' h'=>wpAnyIn_of_HF b hd c f _ a' w' h'.2) (h.2 i hi).2⟩
theorem qeE:∀ (l:List Oper)(k:Nat)(listed:Array Bool)(a:Act)(w:Wo),(∀ j,l[j]?=ops[k+j]?) ->
 Region.seqB md ops l.length k listed=true->wpListIn F m P ops Q l a w->wpAnyIn F m P md ops Q l.length listed a w
 |[],_,_,_,_,_,hB,h=>⟨by simpa[Region.seqB] using hB,h⟩
 |o :: l,k,listed,a,w,hl,hB,h=>by
   have h0:ops[k]?=some o:=by simpa using(hl 0).symm
   simp only[List.length_cons,Region.seqB,Bool.and_eq_true,decide_eq_true_eq] at hB
   refine⟨fun h1=>(by rw[hB.1] at h1;cases h1),fun i hi=>?_⟩
   rw[hB.1] at hi
   have b:i=k:=by simpa using hi
   subst b
   have c:wpOpIn F m P ops Q i (wpListIn F m P ops Q l) a w:=by unfold wpOpIn;simp only[h0];exact h
   exact wpOpIn_mono (fun a' w' h'=>qeE l (i+1) _ a' w' (fun j=>by have:=hl (j+1);simpa[Nat.add_assoc,Nat.add_comm 1 j] using this) hB.2 h') c
theorem qdK{z:Nat}{a:Act}{w:Wo}{l:List Oper}(n s:Nat)(S:Wo->Prop)(q:List (Nat × Nat))(d:Oper)(u:NoBar F)(y:P.follows .mixedOrders=true)(r:Region.mixFTailB .any l.toArray n s q=true)(hd:noDefer l.toArray=true)(v:S w.drew)(h:wpMixF P S (wpListIn F m P l.toArray Q (l.drop n)) (q.map fun x=>(x.1,l.getD x.2 d)) a w.drew):(Code.region z l.toArray true).wpIn F m P Q a w:=by
 simp only[Region.mixFTailB,Bool.and_eq_true,decide_eq_true_eq] at r;obtain⟨⟨⟨⟨⟨c,o⟩,p⟩,k⟩,i⟩,b⟩:=r
 have f:HeadInv .any l.toArray n (Array.replicate l.toArray.size false):=
  ⟨U2,fun j oj _ hl=>(by rw[getD_replicate_false] at hl;cases hl),fun t _ ht=>getD_in (by simpa using ht) (getD_replicate_false _ _)⟩
 have H:=qbP (P:=P) (Q:=fun _ _ _=>False) (md:=.any) (g:=l.toArray.size-n) rfl c p k o (fun _ _ _ _ _ h=>h.elim) q _ a w.drew f b (fun _=>v) h;refine wpIn_region_any y ?_
 have:=wpAnyIn_of_HF (F:=F) (m:=m) (Q:=Q) (g:=l.toArray.size-n) u hd (fun listed' a' w' hL=>by
  have:=qeE (F:=F) (m:=m) (P:=P) (md:=.any) (Q:=Q) (l.drop n) n listed' a' w' (fun j=>by simp[List.getElem?_drop]) (by simpa using hL.1) hL.2
  simpa using this) _ _ a w.drew H
 rw[i,show n+(l.toArray.size-n)=l.toArray.size by omega] at this;exact this
end
end Go.Proofs.YtkcdlealipfnbaaGreat
