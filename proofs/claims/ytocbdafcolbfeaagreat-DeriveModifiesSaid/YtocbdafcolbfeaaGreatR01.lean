/- Parts of the proof. -/
import Derived.Deep.DeepFit
import Derived.StillTail
import Derived.Lib.Hide
import Derived.Test.YtocbdafcolbfeaaGreatChecked
import Derived.Deep.MidRow
import Derived.Deep.WholeRow
import Derived.Deep.Draws
set_option maxRecDepth 100000
set_option maxHeartbeats 8000000
namespace Go.Proofs.YtocbdafcolbfeaaGreat
open Go Go.RowKit Tryz
abbrev OA:=Option Addr
abbrev LN:=List Nat
abbrev LL:=List (List Nat)
abbrev LI:=List Int
abbrev Wo:=World
abbrev zB(w W:World):Prop:=Below w.heap.size w W
abbrev Y(x:Int):Value:=.int .i64 x
abbrev zN(x:Nat):Value:=.int .i64 (x:Int)
abbrev zL(a:OA)(n c:Nat):Value:=.slice a n c
abbrev zS(b:Nat)(n c:Nat):Value:=.slice (some ⟨b,0,none⟩) n c
abbrev zP(b:Nat):Value:=.pointer (some ⟨b,0,none⟩)
abbrev zA(b o:Nat):Addr:=⟨b,o,none⟩
abbrev zO(b:Nat):OA:=some ⟨b,0,none⟩
abbrev zC:=Calls prog
theorem zV{b:Nat}{w:World}:Below b w w:=Below.refl _ _
theorem zn{n:Nat}:n<=n:=Nat.le_refl n
def zK(p:Prop):Prop:=p
theorem zK.o{p:Prop}(h:zK p):p:=h
theorem zK.out{p:Prop}(h:zK p):p:=h
theorem zH{P:Prop}(h:P):zK P:=h
abbrev C2(x0:Int)(x1:Int)(a2:OA)(l2 c2:Nat)(x3:Int)(a4:OA)(l4 c4:Nat):List Value:=[Y x0,Y x1,.slice a2 l2 c2,Y x3,.slice a4 l4 c4]
abbrev C3(x0:Int)(x1:Int)(a2:OA)(l2 c2:Nat):Obj:=.cells #[Y x0,Y x1,.slice a2 l2 c2] 29
abbrev C4(x0:Int)(x1:Int)(a2:OA)(l2 c2:Nat)(x3:Int)(a4:OA)(l4 c4:Nat):Obj:=.cells #[Y x0,Y x1,.slice a2 l2 c2,Y x3,.slice a4 l4 c4] 32
abbrev C5(x0:Int)(x1:Int)(a2:OA)(l2 c2:Nat):List Value:=[Y x0,Y x1,.slice a2 l2 c2]
abbrev C6:Array Value:=#[Y 0,Y 0,.slice none 0 0,Y 0,.slice none 0 0]
abbrev C7(x0:Int)(x1:Int)(a2:OA)(l2 c2:Nat):Value:=.agg #[Y x0,Y x1,.slice a2 l2 c2]
abbrev C8(x0:Int)(x1:Int)(a2:OA)(l2 c2:Nat)(x3:Int)(a4:OA)(l4 c4:Nat):Value:=.agg #[Y x0,Y x1,.slice a2 l2 c2,Y x3,.slice a4 l4 c4]
abbrev C9(x0:Int)(x1:Int)(x2:Int)(x4:Int)(a5 l5 c5:Nat)(x6:Int):Obj:=.cells #[Y x0,Y x1,Y x2,.slice none 0 0,Y x4,.slice (some ⟨a5,0,none⟩) l5 c5,Y x6,.slice none 0 0,.slice none 0 0,Y 0,Y 0,.slice none 0 0,Y 0,Y 0,Y 0,Y 0,Y 0,.slice none 0 0,.slice none 0 0,.slice none 0 0,.slice none 0 0,Y 0,.slice none 0 0] 40
abbrev Ca:Obj:=.cells #[Y 0,Y 0,.slice none 0 0,Y 0,.slice none 0 0] 32
abbrev Cb(x0:Int)(a1:OA)(l1 c1:Nat):Obj:=.cells #[Y x0,.slice a1 l1 c1] 54
abbrev Cc(x0:Int)(x1:Int)(a2:OA)(l2 c2:Nat)(x3:Int)(a4:OA)(l4 c4:Nat):Array Value:=#[Y x0,Y x1,.slice a2 l2 c2,Y x3,.slice a4 l4 c4]
abbrev Cd:List Value:=[Y 0,Y 0,.slice none 0 0,Y 0,.slice none 0 0]
abbrev Ce(x0:Int)(x1:Int)(x2:Int)(x4:Int)(a5 l5 c5:Nat)(x6:Int)(x23:Int)(x24:Int)(x25:Int)(x27:Int)(a28 l28 c28:Nat)(x29:Int):Obj:=.cells #[Y x0,Y x1,Y x2,.slice none 0 0,Y x4,.slice (some ⟨a5,0,none⟩) l5 c5,Y x6,.slice none 0 0,.slice none 0 0,Y 0,Y 0,.slice none 0 0,Y 0,Y 0,Y 0,Y 0,Y 0,.slice none 0 0,.slice none 0 0,.slice none 0 0,.slice none 0 0,Y 0,.slice none 0 0,Y x23,Y x24,Y x25,.slice none 0 0,Y x27,.slice (some ⟨a28,0,none⟩) l28 c28,Y x29,.slice none 0 0,.slice none 0 0,Y 0,Y 0,.slice none 0 0,Y 0,Y 0,Y 0,Y 0,Y 0,.slice none 0 0,.slice none 0 0,.slice none 0 0,.slice none 0 0,Y 0,.slice none 0 0] 40
abbrev Cf(a0:Nat)(x1:Int)(x2:Int):Array Value:=#[.pointer (some ⟨a0,0,none⟩),Y x1,Y x2]
abbrev Ch(a0:Nat)(x1:Int)(a2:OA)(l2 c2:Nat)(a3:OA)(l3 c3:Nat):Array Value:=#[.pointer (some ⟨a0,0,none⟩),Y x1,.slice a2 l2 c2,.slice a3 l3 c3]
abbrev Ci(a0:Nat)(a1:Nat)(a2:Nat)(a3:Nat)(a4:Nat):Array Value:=#[.pointer (some ⟨a0,0,none⟩),.pointer (some ⟨a1,0,none⟩),.pointer (some ⟨a2,0,none⟩),.pointer (some ⟨a3,0,none⟩),.pointer (some ⟨a4,0,none⟩)]
abbrev Cj(a0:OA):Obj:=.cells #[.pointer a0,Y 0,.slice none 0 0,.slice none 0 0] 122
abbrev Ck(a0:Nat)(x1:Int)(a2:OA)(l2 c2:Nat)(a3:OA)(l3 c3:Nat):List Value:=[.pointer (some ⟨a0,0,none⟩),Y x1,.slice a2 l2 c2,.slice a3 l3 c3]
abbrev Cl(x0:Int)(a1 l1 c1:Nat):Obj:=.cells #[Y x0,.slice (some ⟨a1,0,none⟩) l1 c1] 54
abbrev Cm(x0:Int)(a1 l1 c1:Nat):Array Value:=#[Y x0,.slice (some ⟨a1,0,none⟩) l1 c1]
abbrev Cn(x0:Int)(a1:OA)(l1 c1:Nat):List Value:=[Y x0,.slice a1 l1 c1]
abbrev Co(x0:Int)(a1:OA)(l1 c1:Nat):Value:=.agg #[Y x0,.slice a1 l1 c1]
abbrev Cp(x0:Int)(x1:Int)(x3:Int)(a4 l4 c4:Nat):List Value:=[Y x0,Y x1,.slice none 0 0,Y x3,.slice (some ⟨a4,0,none⟩) l4 c4]
abbrev Cq:Obj:=.cells #[Y 0,.slice none 0 0] 54
abbrev Cr(a0:Nat)(x1:Int)(a2:OA)(l2 c2:Nat)(a3:OA)(l3 c3:Nat):Obj:=.cells #[.pointer (some ⟨a0,0,none⟩),Y x1,.slice a2 l2 c2,.slice a3 l3 c3] 122
abbrev Cs(x0:Int)(x1:Int)(x2:Int)(x4:Int)(a5 l5 c5:Nat)(x6:Int):List Value:=[Y x0,Y x1,Y x2,.slice none 0 0,Y x4,.slice (some ⟨a5,0,none⟩) l5 c5,Y x6,.slice none 0 0,.slice none 0 0,Y 0,Y 0,.slice none 0 0,Y 0,Y 0,Y 0,Y 0,Y 0,.slice none 0 0,.slice none 0 0,.slice none 0 0,.slice none 0 0,Y 0,.slice none 0 0]
abbrev Ct(a0:Nat)(x1:Int):Array Value:=#[.pointer (some ⟨a0,0,none⟩),Y x1]
abbrev Cu(a0:OA):Array Value:=#[.pointer a0,Y 0,.slice none 0 0,.slice none 0 0]
abbrev Cv:Array Value:=#[Y 0,.slice none 0 0]
abbrev Cw(x0:Int)(x1:Int)(a2:OA)(l2 c2:Nat)(x3:Int)(a4 l4 c4:Nat):Array Value:=#[Y x0,Y x1,.slice a2 l2 c2,Y x3,.slice (some ⟨a4,0,none⟩) l4 c4]
abbrev Cx(x0:Int)(x1:Int)(a2 l2 c2:Nat)(x3:Int)(a4 l4 c4:Nat)(a5 l5 c5:Nat):Obj:=.cells #[Y x0,Y x1,.slice (some ⟨a2,0,none⟩) l2 c2,Y x3,.slice (some ⟨a4,0,none⟩) l4 c4,.slice (some ⟨a5,0,none⟩) l5 c5] 171
abbrev Cy(x0:Int)(x1:Int)(x3:Int)(a4 l4 c4:Nat):Value:=.agg #[Y x0,Y x1,.slice none 0 0,Y x3,.slice (some ⟨a4,0,none⟩) l4 c4]
abbrev Cz(x0:Int)(a1:OA)(l1 c1:Nat):Array Value:=#[Y x0,.slice a1 l1 c1]
abbrev D0(a0:OA):List Value:=[.pointer a0,Y 0,.slice none 0 0,.slice none 0 0]
abbrev D1(x0:Int):Obj:=.cells #[Y x0,.slice none 0 0] 54
abbrev D2:Obj:=.cells #[Y 0,Y 0,.slice none 0 0] 29
abbrev D3(x0:Int)(x1:Int)(a2:OA)(l2 c2:Nat)(x3:Int)(a4 l4 c4:Nat)(a5 l5 c5:Nat):Obj:=.cells #[Y x0,Y x1,.slice a2 l2 c2,Y x3,.slice (some ⟨a4,0,none⟩) l4 c4,.slice (some ⟨a5,0,none⟩) l5 c5] 171
abbrev D4(a0:Nat):Array Value:=#[.pointer (some ⟨a0,0,none⟩),Y 0]
abbrev D5(a0:Nat)(x1:Int)(a2:OA)(l2 c2:Nat)(a3:OA)(l3 c3:Nat):Value:=.agg #[.pointer (some ⟨a0,0,none⟩),Y x1,.slice a2 l2 c2,.slice a3 l3 c3]
abbrev D6(a0:OA)(l0 c0:Nat)(x1:Int):Array Value:=#[.slice a0 l0 c0,Y x1]
abbrev D7(x0:Int):Array Value:=#[Y x0,Y 0]
abbrev D8(x0:Int)(a1 l1 c1:Nat):List Value:=[Y x0,.slice (some ⟨a1,0,none⟩) l1 c1]
abbrev D9(a0:OA)(l0 c0:Nat)(a1:OA)(l1 c1:Nat)(x2:Int):Obj:=.cells #[.slice a0 l0 c0,.slice a1 l1 c1,Y x2] 36
abbrev Da:Value:=.agg #[Y 0,Y 0,.slice none 0 0,Y 0,.slice none 0 0]
abbrev Db(x0:Int)(x1:Int)(a2:OA)(l2 c2:Nat):Array Value:=#[Y x0,Y x1,.slice a2 l2 c2]
theorem U9{P:Prop}(h:P:=by show _=_;rw[Int.natCast_add];exact IntWalk.i64_in _ (by omega)):P:=h
theorem df{P:Prop}(h:P:=by first|rfl|rw[World.drewN_drewN]):P:=h
theorem U7{P:Prop}(h:P:=by first|assumption|(simp;omega)):P:=h
theorem V3{P:Prop}(h:P:=by simp[Value.ownBlock]<;>omega):P:=h
theorem V2{P:Prop}(h:P:=by simp[Value.ownBlock];omega):P:=h
theorem U5{P:Prop}(h:P:=by first|rfl|simp_all):P:=h
theorem V0{P:Prop}(h:P:=by rw[World.drewN_drewN]):P:=h
theorem U3{P:Prop}(h:P:=by simp[Value.oneCell']):P:=h
theorem U4{P:Prop}(h:P:=by unfold maxLen;omega):P:=h
theorem U6{P:Prop}(h:P:=by show _<=_;omega):P:=h
theorem U8{P:Prop}(h:P:=by show _=_;simp):P:=h
theorem dk{P:Prop}(h:P:=by decide +kernel):P:=h
theorem U1{P:Prop}(h:P:=by kernel_rfl):P:=h
theorem so{P:Prop}(h:P:=by simp;omega):P:=h
theorem am{P:Prop}(h:P:=by assumption):P:=h
theorem gn{P:Prop}(h:P:=by go_num):P:=h
theorem dc{P:Prop}(h:P:=by decide):P:=h
theorem U0{P:Prop}(h:P:=by omega):P:=h
theorem U2{P:Prop}(h:P:=by simp):P:=h
end Go.Proofs.YtocbdafcolbfeaaGreat
namespace Go.Proofs.YtocbdafcolbfeaaGreat
open Go.RowKit
section
variable {P:Program}
theorem qaH{ops:Array Oper}{rest:List Oper}{o:Oper}{a:Act}{Q:Exit->Act->Wo->Prop}(f:o.guard=none)(d:TypeId)(x y:Operand)(j:o.op=.store d x y)(w:Wo)(c b:Array Value)(l:a.eval x=zP w.heap.size)(m:a.eval y=.agg b)(i:(P.info? d).map (·.size)=some b.size)(k:c.size=b.size)(g:b.all (·.oneCell')=true)(h:wpList P ops Q rest (a.put o.dst undef) (w.alloc (.cells b d))):wpList P ops Q (o :: rest) a (w.alloc (.cells c d)):=
 wpList_plain f fun _ hK=>by
  unfold Oper.wp execOp
  simp only[j,l,m,Sem.run_bind,run_storeAt_new w d c b i k g,Result.andThen_ok,Sem.run_pure]
  exact hK _ _ h
end
theorem qaG{k:IntKind}{a b:Int}(h:a=b):Ending.returned (.int k a)=.returned (.int k b):=by rw[h]
theorem qaN{a b:Bool}(h:a=b):Ending.returned (.bool a)=.returned (.bool b):=by rw[h]
theorem qaB{B:Nat}{a w:Wo}(h:Below B a w)(n:Nat):Below B a (w.drewN n):=⟨h.os,h.tape,h.output,h.size,h.block⟩
theorem qaR{B:Nat}{a w:Wo}(h:Below B a w){g:Nat}(b:B<=g)(cs:Array Value):Below B a (w.setRow g cs):=
 h.trans ⟨rfl,rfl,rfl,U2,fun k hk=>setRow_other w g k cs U0⟩
end Go.Proofs.YtocbdafcolbfeaaGreat
namespace Go.Proofs.YtocbdafcolbfeaaGreat.Pln
abbrev Vec:=Nat->Int
def sh(m:Nat)(md:Vec)(v:Vec):Vec:=fun j=>if j<m then(if j=0 then 0 else v (j-1))-v (m-1)*md j else 0
def shN(m:Nat)(md:Vec):Nat->Vec->Vec
 |0,v=>v
 |k+1,v=>sh m md (shN m md k v)
def pol(m:Nat)(md:Vec)(b:Vec):Nat->Vec->Vec
 |0,_=>fun _=>0
 |k+1,a=>fun j=>b k*shN m md k a j+pol m md b k a j
def un:Vec:=fun j=>if j=0 then 1 else 0
def Supp(m:Nat)(a:Vec):Prop:=∀j,m<=j->a j=0
section
variable (m:Nat) (md:Vec)
theorem sh_lin(a:Int)(u v:Vec):sh m md (fun j=>a*u j+v j)=fun j=>a*sh m md u j+sh m md v j:=by funext j;unfold sh;by_cases h:j<m<;>by_cases b:j=0<;>simp only[h,b,if_true,if_false]<;>grind
theorem sh_zero:sh m md (fun _=>0)=fun _=>0:=by funext j;unfold sh;by_cases h:j<m<;>by_cases b:j=0<;>simp[h,b]
theorem qdN(a:Int)(u v:Vec):∀k,shN m md k (fun j=>a*u j+v j)=fun j=>a*shN m md k u j+shN m md k v j
 |0=>rfl
 |k+1=>by show sh m md (shN m md k _)=_;rw[qdN a u v k,sh_lin];rfl
theorem qeA:∀k,shN m md k (fun _=>0)=fun _=>0
 |0=>rfl
 |k+1=>by show sh m md (shN m md k _)=_;rw[qeA k,sh_zero]
theorem shN_succ(v:Vec):∀k,shN m md (k+1) v=shN m md k (sh m md v)
 |0=>rfl
 |k+1=>by show sh m md (shN m md (k+1) v)=_;rw[shN_succ v k];rfl
theorem shN_add(v:Vec)(i:Nat):∀k,shN m md (k+i) v=shN m md k (shN m md i v)
 |0=>by rw[Nat.zero_add];rfl
 |k+1=>by rw[Nat.add_right_comm];show sh m md (shN m md (k+i) v)=_;rw[shN_add v i k];rfl
theorem pol_lin(b:Vec)(a:Int)(u v:Vec):∀ k,pol m md b k (fun j=>a*u j+v j)=fun j=>a*pol m md b k u j+pol m md b k v j
 |0=>by funext j;simp[pol]
 |k + 1=>by
   funext j
   simp only[pol,pol_lin b a u v k,qdN m md a u v k]
   grind
theorem pol_zero(b:Vec):∀k,pol m md b k (fun _=>0)=fun _=>0
 |0=>rfl
 |k+1=>by funext j;simp[pol,pol_zero b k,qeA m md k]
theorem qdZ(a:Int)(b c:Vec)(u:Vec):∀k,pol m md (fun j=>a*b j+c j) k u=fun j=>a*pol m md b k u j+pol m md c k u j
 |0=>by funext j;simp[pol]
 |k+1=>by funext j;simp only[pol,qdZ a b c u k];grind
theorem pol_sh(b:Vec)(a:Vec):∀ k,pol m md b k (sh m md a)=sh m md (pol m md b k a)
 |0=>by funext j;simp[pol,sh_zero]
 |k + 1=>by
   show(fun j=>b k*shN m md k (sh m md a) j+pol m md b k (sh m md a) j)=sh m md (fun j=>b k*shN m md k a j+pol m md b k a j)
   rw[sh_lin,pol_sh b a k,<- shN_succ]
   rfl
theorem pol_shN(b:Vec)(a:Vec)(k:Nat):∀i,pol m md b k (shN m md i a)=shN m md i (pol m md b k a)
 |0=>rfl
 |i+1=>by show pol m md b k (sh m md (shN m md i a))=sh m md (shN m md i (pol m md b k a));rw[pol_sh,pol_shN b a k i]
theorem pol_comm(b c a:Vec)(l:Nat):∀ k,pol m md b k (pol m md c l a)=pol m md c l (pol m md b k a)
 |0=>by show(fun _=>0)=pol m md c l (fun _=>0);rw[pol_zero]
 |k + 1=>by
   show(fun j=>b k*shN m md k (pol m md c l a) j+pol m md b k (pol m md c l a) j)=pol m md c l (fun j=>b k*shN m md k a j+pol m md b k a j)
   rw[pol_lin,pol_comm b c a l k,pol_shN]
theorem pol_horner(b a:Vec):∀ k,pol m md b (k+1) a=fun j=>b 0*a j+sh m md (pol m md (fun i=>b (i+1)) k a) j
 |0=>by funext j;simp[pol,sh_zero,shN]
 |k + 1=>by
   have h:=pol_horner b a k
   funext j
   show b (k+1)*shN m md (k+1) a j+pol m md b (k+1) a j=_
   rw[h]
   show _=b 0*a j+sh m md (fun j=>b (k+1)*shN m md k a j+pol m md (fun i=>b (i+1)) k a j) j
   rw[sh_lin]
   show b (k+1)*sh m md (shN m md k a) j+_=_
   grind
theorem sh_supp(a:Vec):Supp m (sh m md a):=fun j hj=>by unfold sh;rw[if_neg U0]
theorem shN_supp{a:Vec}(h:Supp m a):∀k,Supp m (shN m md k a)
 |0=>h
 |_+1=>sh_supp m md _
theorem pol_supp{b a:Vec}(h:Supp m a):∀k,Supp m (pol m md b k a)
 |0=>fun _ _=>rfl
 |k+1=>fun j hj=>by simp[pol,pol_supp h k j hj,shN_supp m md h k j hj]
theorem shN_un:∀ i,i<m->shN m md i un=fun j=>if j=i then 1 else 0
 |0,_=>rfl
 | i + 1,h => by
   show sh m md (shN m md i un)=_
   rw[shN_un i U0]
   funext j
   unfold sh
   by_cases hj:j<m
   . have hmi : ¬ (m - 1 = i) := by omega
     simp only[if_pos hj,if_neg hmi]
     by_cases b:j=0
     . subst b;simp
     . have c : (j - 1 = i) ↔ (j = i + 1):=by omega
       simp[b,c]
   . rw[if_neg hj,if_neg U0]
theorem shN_un_top(f:0<m):shN m md m un=fun j=>if j<m then-md j else 0:=by
 obtain⟨n,rfl⟩:∃n,m=n+1:=⟨m-1,U0⟩;show sh (n+1) md (shN (n+1) md n un)=_;rw[shN_un (n+1) md n U0];funext j;unfold sh;by_cases b:j<n+1
 . rw[if_pos b,if_pos b];by_cases c:j=0
   . subst c;simp
   . (have d:¬(j-1=n):=by omega);simp[c,d]
 . rw[if_neg b,if_neg b]
theorem pol_un(b:Vec):∀ k,k<=m->pol m md b k un=fun j=>if j<k then b j else 0
 |0,_=>by funext j;simp[pol]
 | k + 1,h => by
   funext j
   simp only[pol,shN_un m md k U0,pol_un b k U0]
   by_cases h1:j=k
   . subst h1;simp
   . rw[if_neg h1]
     by_cases h2:j<k
     . rw[if_pos h2,if_pos U0];simp
     . rw[if_neg h2,if_neg U0];simp
theorem pol_id{b:Vec}(h:Supp m b):pol m md b m un=b:=by
 rw[pol_un m md b m zn];funext j;by_cases c:j<m
 . rw[if_pos c]
 . rw[if_neg c,h j U0]
def mz(a b:Vec):Vec:=pol m md b m a
theorem mz_comm{a b:Vec}(c:Supp m a)(d:Supp m b):mz m md a b=mz m md b a:=by
 show pol m md b m a=pol m md a m b;conv=>lhs;rw[<- pol_id m md c]
 rw[pol_comm,pol_id m md d]
theorem mz_assoc{a b c:Vec}(f:Supp m a)(g:Supp m b):mz m md (mz m md a b) c=mz m md a (mz m md b c):=by have d:Supp m (mz m md b c):=pol_supp m md g m;rw[mz_comm m md f d];show pol m md c m (pol m md b m a)=pol m md a m (pol m md c m b);rw[pol_comm m md a c b m m];exact congrArg (pol m md c m) (mz_comm m md f g)
theorem mz_un{a:Vec}:mz m md un a=fun j=>if j<m then a j else 0:=pol_un m md a m zn
end
def Cg(p:Int)(u v:Vec):Prop:=∃t:Vec,u=fun j=>p*t j+v j
theorem Cg.refl(p:Int)(u:Vec):Cg p u u:=⟨fun _=>0,by funext j;simp⟩
theorem Cg.of_eq{p:Int}{u v:Vec}(h:u=v):Cg p u v:=h ▸ Cg.refl p u
theorem Cg.symm{p:Int}{u v:Vec}(h:Cg p u v):Cg p v u:=by obtain⟨t,rfl⟩:=h;exact⟨fun j=>- t j,by funext j;grind⟩
theorem Cg.trans{p:Int}{u v w:Vec}(h:Cg p u v)(b:Cg p v w):Cg p u w:=by obtain⟨t,rfl⟩:=h;obtain⟨s,rfl⟩:=b;exact⟨fun j=>t j+s j,by funext j;grind⟩
theorem Cg.lin{p:Int}{u v b v':Vec}(a:Int)(h:Cg p u b)(c:Cg p v v'):Cg p (fun j=>a*u j+v j) (fun j=>a*b j+v' j):=by obtain⟨t,rfl⟩:=h;obtain⟨s,rfl⟩:=c;exact⟨fun j=>a*t j+s j,by funext j;grind⟩
theorem Cg.at_{p:Int}{u v:Vec}(h:Cg p u v)(j:Nat):u j % p=v j % p:=by obtain⟨t,rfl⟩:=h;show(p*t j+v j) % p=_;rw[Int.add_comm,Int.add_mul_emod_self_left]
theorem Cg.mk{p:Int}{u v:Vec}(h:∀j,u j % p=v j % p):Cg p u v:=by refine⟨fun j=>u j / p-v j / p,?_⟩;funext j;have b:=Int.mul_ediv_add_emod (u j) p;have c:=Int.mul_ediv_add_emod (v j) p;have:=h j;grind
theorem Cg.sh{p:Int}{u v:Vec}(m:Nat)(md:Vec)(h:Cg p u v):Cg p (sh m md u) (sh m md v):=by obtain⟨t,rfl⟩:=h;exact⟨Pln.sh m md t,by rw[sh_lin]⟩
theorem Cg.pol{p:Int}{u v:Vec}(m:Nat)(md b:Vec)(k:Nat)(h:Cg p u v):Cg p (pol m md b k u) (pol m md b k v):=by obtain⟨t,rfl⟩:=h;exact⟨Pln.pol m md b k t,by rw[pol_lin]⟩
theorem Cg.coef{p:Int}{b c:Vec}(m:Nat)(md a:Vec)(k:Nat)(h:Cg p b c):Cg p (Pln.pol m md b k a) (Pln.pol m md c k a):=by obtain⟨t,rfl⟩:=h;exact⟨Pln.pol m md t k a,by rw[qdZ]⟩
def digs(p:Nat):Nat->Nat->LN
 |0,_=>[]
 |m+1,x=>x % p :: digs p m (x / p)
def val(p:Nat):LN->Nat
 |[]=>0
 |d :: r=>d+p*val p r
def Dig(p m:Nat)(l:LN):Prop:=l.length=m/\∀d∈l,d<p
def F(l:LN):Vec:=fun j=>((l.getD j 0:Nat):Int)
theorem qaZ{l:LN}{j:Nat}(h:l.length<=j):l.getD j 0=0:=by simp[List.getD,List.getElem?_eq_none h]
theorem qaK(p:Nat):∀m x,(digs p m x).length=m
 |0,_=>rfl
 |m+1,x=>by simp[digs,qaK p m]
theorem qdU{p:Nat}(b:0<p):∀ m x,∀ d∈digs p m x,d<p
 |0,_=>by simp[digs]
 |m + 1,x=>by
   intro d hd
   simp only[digs,List.mem_cons] at hd
   rcases hd with rfl|hd
   . exact Nat.mod_lt _ b
   . exact qdU b m _ d hd
theorem qcB{p:Nat}(b:0<p)(m x:Nat):Dig p m (digs p m x):=⟨qaK p m x,qdU b m x⟩
theorem val_digs{p:Nat}(b:0<p):∀ m x,x<p ^ m->val p (digs p m x)=x
 |0,x,h=>by simp at h;simp[digs,val,h]
 |m + 1,x,h=>by
   have h1:x / p<p^m:=by rw[Nat.div_lt_iff_lt_mul b];rwa [Nat.pow_succ] at h
   simp only[digs,val,val_digs b m _ h1]
   exact Nat.mod_add_div x p
theorem qcR{p:Nat}(b:0<p):∀ l:LN,(∀ d∈l,d<p)->digs p l.length (val p l)=l
 |[],_=>rfl
 |d :: r,h=>by
   have hd:=h d (List.mem_cons_self ..)
   have:=qcR b r (fun y hy=>h y (List.mem_cons_of_mem _ hy))
   simp only[val,List.length_cons,digs]
   rw[Nat.add_mul_mod_self_left,Nat.mod_eq_of_lt hd,Nat.add_mul_div_left _ _ b,Nat.div_eq_of_lt hd,Nat.zero_add,this]
theorem val_lt{p:Nat}(c:0<p):∀ l:LN,(∀ d∈l,d<p)->val p l<p ^ l.length
 |[],_=>by simp[val]
 |d :: r,h=>by
   have hd:=h d (List.mem_cons_self ..)
   have:=val_lt c r (fun y hy=>h y (List.mem_cons_of_mem _ hy))
   simp only[val,List.length_cons,Nat.pow_succ]
   have b:p*(val p r+1)<=p*p^r.length:=Nat.mul_le_mul_left _ this
   rw[Nat.mul_comm (p^r.length) p]
   rw[Nat.mul_add,Nat.mul_one] at b
   omega
theorem qcP{m:Nat}{l:LN}(h:l.length<=m):Supp m (F l):=fun j hj=>by
 unfold F
 rw[qaZ U0]
 rfl
theorem F_inj{p:Nat}{l n:LN}(r:l.length=n.length)(h:∀d∈l,d<p)(o:∀d∈n,d<p)(q:Cg p (F l) (F n)):l=n:=by
 apply List.ext_getElem r;intro j b c;have:=q.at_ j;unfold F at this;have f:l.getD j 0=l[j]:=by simp[List.getD,b]
 have g:n.getD j 0=n[j]:=by simp[List.getD,c]
 rw[f,g] at this;have i:=h _ (List.getElem_mem b);have k:=o _ (List.getElem_mem c);rw[Int.emod_eq_of_lt U0 U0,Int.emod_eq_of_lt U0 U0] at this;omega
def stepM(p m:Nat)(md a:LN)(bi:Nat)(out:LN):LN:=
 (List.range m).map fun j=>((if j=0 then 0 else out.getD (j-1) 0)+(p-out.getD (m-1) 0)*md.getD j 0+bi*a.getD j 0) % p
def mulL(p m:Nat)(md a b:LN):LN:=b.foldr (fun bi out=>stepM p m md a bi out) (List.replicate m 0)
theorem stepM_dig{p m:Nat}(c:0<p)(md a:LN)(bi:Nat)(b:LN):Dig p m (stepM p m md a bi b):=by refine⟨by simp[stepM],?_⟩;intro d hd;unfold stepM at hd;obtain⟨j,_,rfl⟩:=List.mem_map.1 hd;exact Nat.mod_lt _ c
theorem getD_lt{p m:Nat}(c:0<p){l:LN}(h:Dig p m l)(j:Nat):l.getD j 0<p:=by
 by_cases b:j<l.length
 . (have:l.getD j 0=l[j]:=by simp[List.getD,b]);rw[this];exact h.2 _ (List.getElem_mem b)
 . rw[qaZ U0];exact c
theorem stepM_spec{p m:Nat}(o:0<p)(md a:LN)(q:a.length=m)(bi:Nat)(l:LN)(n:Dig p m l):
 Cg p (F (stepM p m md a bi l)) (fun j=>(bi:Int)*F a j+sh m (F md) (F l) j):=by
 apply Cg.mk;intro j;by_cases b:j<m
 . (have e:(stepM p m md a bi l).getD j 0=((if j=0 then 0 else l.getD (j-1) 0)+(p-l.getD (m-1) 0)*md.getD j 0+bi*a.getD j 0) % p:=by simp[stepM,List.getD,b]);have k:=getD_lt o n (m-1);show((((stepM p m md a bi l).getD j 0:Nat):Int)) % p=_;rw[e];unfold sh F;rw[if_pos b];generalize l.getD (m-1) 0=t at *;generalize md.getD j 0=d at *;generalize a.getD j 0=y at *;(have i:(((if j=0 then 0 else l.getD (j-1) 0):Nat):Int)=(if j=0 then(0:Int) else((l.getD (j-1) 0:Nat):Int)):=by split<;>rfl);rw[<- i];generalize (if j=0 then 0 else l.getD (j-1) 0)=s at *;(have h:(((s+(p-t)*d+bi*y) % p:Nat):Int)=((bi:Int)*y+(s-(t:Int)*d)+p*d) % p:=by rw[Int.natCast_emod];congr 1;rw[Int.natCast_add,Int.natCast_add,Int.natCast_mul,Int.natCast_mul,Int.natCast_sub (Nat.le_of_lt k)];grind);rw[h,Int.add_mul_emod_self_left,Int.emod_emod]
 . have c:F (stepM p m md a bi l) j=0:=qcP (m:=m) (by simp[stepM]) j U0;have f:F a j=0:=qcP (m:=m) U0 j U0;have g:sh m (F md) (F l) j=0:=sh_supp m _ _ j U0;rw[c,f,g];simp
theorem qaW{p m:Nat}(c:0<p)(md a b:LN):Dig p m (mulL p m md a b):=by
 cases b with
 |nil=>exact⟨by simp[mulL],fun d hd=>by simp[mulL] at hd;omega⟩
 |cons x r=>exact stepM_dig c md a x _
theorem F_zero(m:Nat):F (List.replicate m 0)=fun _=>0:=by funext j;unfold F;simp[List.getD,List.getElem?_replicate];split<;>simp
theorem F_cons(x:Nat)(r:LN)(i:Nat):F (x :: r) (i+1)=F r i:=by simp[F]
theorem mulL_spec'{p m:Nat}(d:0<p)(md a:LN)(f:a.length=m):∀ b:LN,Cg p (F (mulL p m md a b)) (pol m (F md) (F b) b.length (F a))
 |[]=>by
   apply Cg.of_eq
   show F (List.replicate m 0)=_
   rw[F_zero]
   rfl
 |x :: r=>by
   have ih:=mulL_spec' d md a f r
   have c:=stepM_spec d md a f x (mulL p m md a r) (qaW d md a r)
   refine Cg.trans c ?_
   rw[List.length_cons,pol_horner]
   have e:(fun i=>F (x :: r) (i+1))=F r:=by funext i;exact F_cons x r i
   rw[e]
   exact Cg.lin _ (Cg.refl _ _) (ih.sh m (F md))
theorem qbJ{p m:Nat}(f:0<p)(md a b:LN)(c:a.length=m)(d:b.length=m):Cg p (F (mulL p m md a b)) (mz m (F md) (F a) (F b)):=by have:=mulL_spec' f md a c b;rw[d] at this;exact this
theorem mz_cg{p:Int}{m:Nat}{md a c b d:Vec}(f:Cg p a c)(g:Cg p b d):Cg p (mz m md a b) (mz m md c d):=(f.pol m md b m).trans (g.coef m md c m)
theorem mulL_comm{p m:Nat}(f:0<p)(md a b:LN)(g:a.length=m)(h:b.length=m):mulL p m md a b=mulL p m md b a:=by have c:=qaW (m:=m) f md a b;have d:=qaW (m:=m) f md b a;refine F_inj (c.1.trans d.1.symm) c.2 d.2 ?_;refine(qbJ f md a b g h).trans (Cg.trans (Cg.of_eq ?_) (qbJ f md b a h g).symm);exact mz_comm m _ (qcP U0) (qcP U0)
theorem mulL_assoc{p m:Nat}(i:0<p)(md a b c:LN)(j:a.length=m)(k:b.length=m)(l:c.length=m):
 mulL p m md (mulL p m md a b) c=mulL p m md a (mulL p m md b c):=by have g:=qaW (m:=m) i md a b;have h:=qaW (m:=m) i md b c;have d:=qaW (m:=m) i md (mulL p m md a b) c;have f:=qaW (m:=m) i md a (mulL p m md b c);refine F_inj (d.1.trans f.1.symm) d.2 f.2 ?_;refine(qbJ i md _ c g.1 l).trans (Cg.trans (mz_cg (qbJ i md a b j k) (Cg.refl _ _)) ?_);refine Cg.trans (Cg.of_eq (mz_assoc m _ (qcP U0) (qcP U0))) ?_;exact(mz_cg (Cg.refl _ _) (qbJ i md b c k l).symm).trans (qbJ i md a _ j h.1).symm
def addAt(p:Nat)(c:LN)(k z:Nat):LN:=c.set k ((c.getD k 0+z) % p)
def convRow(p i ai:Nat)(b c:LN):Nat->LN
 |0=>c
 |j+1=>addAt p (convRow p i ai b c j) (i+j) (ai*b.getD j 0)
def conv(p m:Nat)(a b:LN):Nat->LN
 |0=>List.replicate (2*m-1) 0
 |i+1=>convRow p i (a.getD i 0) b (conv p m a b i) m
def redRow(p m:Nat)(md:LN)(i:Nat)(c:LN):Nat->LN
 |0=>c
 |j+1=>addAt p (redRow p m md i c j) (i-m+j) ((p-(redRow p m md i c j).getD i 0)*md.getD j 0)
def red(p m:Nat)(md c:LN):Nat->LN
 |0=>c
 |t+1=>redRow p m md (2*m-2-t) (red p m md c t) m
def refMulL(p m:Nat)(md a b:LN):LN:=(red p m md (conv p m a b m) (m-1)).take m
theorem addAt_dig{p n:Nat}(b:0<p){c:LN}(h:Dig p n c)(k z:Nat):Dig p n (addAt p c k z):=by
 refine⟨by simp[addAt,h.1],fun d hd=>?_⟩;rcases List.mem_or_eq_of_mem_set hd with h'|rfl
 . exact h.2 _ h'
 . exact Nat.mod_lt _ b
theorem F_addAt{p n:Nat}{c:LN}(d:c.length=n)(k z:Nat)(f:k<n):
 Cg p (F (addAt p c k z)) (fun j=>(z:Int)*(if j=k then 1 else 0)+F c j):=by
 apply Cg.mk;intro j;by_cases b:j=k
 . subst b;(have e:(addAt p c j z).getD j 0=(c.getD j 0+z) % p:=by simp[addAt,List.getD,d,f]);unfold F;rw[e,if_pos rfl];rw[Int.natCast_emod,Int.emod_emod,Int.natCast_add];congr 1;omega
 . (have e:(addAt p c k z).getD j 0=c.getD j 0:=by simp only[addAt,List.getD];rw[List.getElem?_set_ne U0]);unfold F;rw[e,if_neg b];simp
theorem pol_delta(m:Nat)(md:Vec)(k:Nat)(a:Vec):∀ n,k<n->pol m md (fun j=>if j=k then 1 else 0) n a=shN m md k a
 |0,h=>absurd h U0
 | n + 1,h => by
   funext j
   simp only[pol]
   by_cases hk:n=k
   . subst hk
     have:∀i,i<=n->pol m md (fun j=>if j=n then 1 else 0) i a=fun _=>0:=by
      intro i
      induction i with
      |zero=>intro _;rfl
      |succ i ih=>intro b;funext j;simp[pol,ih U0,show ¬i=n by omega]
     rw[this n zn]
     simp
   . rw[pol_delta m md k a n U0,if_neg hk]
     simp
def ev(m:Nat)(md:Vec)(c:LN)(k:Nat):Vec:=pol m md (F c) k un
theorem ev_addAt{p m:Nat}(md:Vec){n:Nat}{c:LN}(d:n<=c.length)(k z:Nat)(b:k<n):
 Cg p (ev m md (addAt p c k z) n) (fun j=>(z:Int)*shN m md k un j+ev m md c n j):=by have h:=(F_addAt (p:=p) (c:=c) rfl k z U0).coef m md un n;refine Cg.trans h ?_;rw[qdZ,pol_delta m md k un n b];exact Cg.refl _ _
theorem qdI{p n:Nat}(f:0<p)(i d:Nat)(b:LN){c:LN}(h:Dig p n c):∀j,Dig p n (convRow p i d b c j)
 |0=>h
 |j+1=>addAt_dig f (qdI f i d b h j) _ _
theorem convRow_ev{p m:Nat}(h:0<p)(md:Vec)(i f:Nat)(b:LN){c:LN}(g:Dig p (2*m-1) c)(l:i<m):
 ∀j,j<=m->Cg p (ev m md (convRow p i f b c j) (2*m-1)) (fun k=>(f:Int)*shN m md i (pol m md (F b) j un) k+ev m md c (2*m-1) k)
 |0,_=>by
   apply Cg.of_eq
   funext k
   simp[convRow,pol,qeA]
 |j + 1,hj=>by
   have h1:=ev_addAt (p:=p) (m:=m) md (n:=2*m-1) (c:=convRow p i f b c j) (Nat.le_of_eq (qdI h i f b g j).1.symm) (i+j) (f*b.getD j 0) U0
   have d:=convRow_ev h md i f b g l j U0
   refine Cg.trans h1 (Cg.trans (Cg.lin _ (Cg.refl _ _) d) (Cg.of_eq ?_))
   funext k
   have e:pol m md (F b) (j+1) un=fun k=>F b j*shN m md j un k+pol m md (F b) j un k:=rfl
   rw[e,qdN,<- shN_add]
   unfold F
   rw[Int.natCast_mul]
   grind
theorem qcO{p:Nat}(c:0<p)(m:Nat)(a b:LN):∀i,Dig p (2*m-1) (conv p m a b i)
 |0=>⟨by simp[conv],fun d hd=>by simp[conv] at hd;omega⟩
 |i+1=>qdI c i _ b (qcO c m a b i) m
theorem conv_ev{p m:Nat}(g:0<p)(md:Vec)(a b:LN)(h:b.length=m):∀ i,i<=m->Cg p (ev m md (conv p m a b i) (2*m-1)) (pol m md (F a) i (F b))
 | 0,_ => by
   apply Cg.of_eq
   have:F (conv p m a b 0)=fun _=>0:=F_zero _
   unfold ev
   rw[this]
   have d:∀n,pol m md (fun _=>0) n un=fun _=>0:=by
    intro n
    induction n with
    |zero=>rfl
    |succ n ih=>funext j;simp[pol,ih]
   rw[d]
   rfl
 |i + 1,hi=>by
   have c:=convRow_ev g md i (a.getD i 0) b (qcO g m a b i) U0 m zn
   have f:=conv_ev g md a b h i U0
   have e:pol m md (F b) m un=F b:=pol_id m md (qcP U0)
   rw[e] at c
   exact Cg.trans c (Cg.lin _ (Cg.refl _ _) f)
theorem qdW{p n:Nat}(b:0<p)(m:Nat)(md:LN)(i:Nat){c:LN}(h:Dig p n c):∀j,Dig p n (redRow p m md i c j)
 |0=>h
 |j+1=>addAt_dig b (qdW b m md i h j) _ _
theorem redRow_at{p m:Nat}(md:LN){i:Nat}(b:m<=i)(c:LN):∀ j,j<=m->(redRow p m md i c j).getD i 0=c.getD i 0
 |0,_=>rfl
 |j + 1,hj=>by
   have:=redRow_at (p:=p) md b c j U0
   rw[<- this]
   simp only[redRow,addAt,List.getD]
   rw[List.getElem?_set_ne U0]
theorem redRow_ev{p m:Nat}(q:0<p)(md:LN){i:Nat}(h:m<=i){c:LN}(o:Dig p (2*m-1) c)(l:i<2*m-1):
 ∀j,j<=m->Cg p (ev m (F md) (redRow p m md i c j) i) (fun k=>(((p-c.getD i 0:Nat):Int))*shN m (F md) (i-m) (pol m (F md) (F md) j un) k+ev m (F md) c i k)
 |0,_=>by
   apply Cg.of_eq
   funext k
   simp[redRow,pol,qeA]
 | j + 1,hj => by
   have hl:=(qdW q m md i o j).1
   have d:=ev_addAt (p:=p) (m:=m) (F md) (n:=i) (c:=redRow p m md i c j) U0 (i-m+j) ((p-(redRow p m md i c j).getD i 0)*md.getD j 0) U0
   have g:=redRow_ev q md h o l j U0
   rw[redRow_at md h c j U0] at d
   have b:Cg p (ev m (F md) (redRow p m md i c (j+1)) i) (fun k=>(((p-c.getD i 0)*md.getD j 0:Nat):Int)*shN m (F md) (i-m+j) un k+ev m (F md) (redRow p m md i c j) i k):=by
    have e:redRow p m md i c (j+1)=addAt p (redRow p m md i c j) (i-m+j) ((p-c.getD i 0)*md.getD j 0):=by
     show addAt p (redRow p m md i c j) (i-m+j) ((p-(redRow p m md i c j).getD i 0)*md.getD j 0)=_
     rw[redRow_at md h c j U0]
    rw[e]
    exact d
   refine Cg.trans b (Cg.trans (Cg.lin _ (Cg.refl _ _) g) (Cg.of_eq ?_))
   funext k
   have e:pol m (F md) (F md) (j+1) un=fun k=>F md j*shN m (F md) j un k+pol m (F md) (F md) j un k:=rfl
   rw[e,qdN,<- shN_add]
   have f:F md j=((md.getD j 0:Nat):Int):=rfl
   rw[f,Int.natCast_mul]
   grind
theorem red_step{p m:Nat}(o:0<p)(md:LN)(r:md.length=m){i:Nat}(q:m<=i){c:LN}(n:Dig p (2*m-1) c)(l:i<2*m-1):
 Cg p (ev m (F md) (redRow p m md i c m) i) (ev m (F md) c (i+1)):=by
 have d:=getD_lt o n i;refine Cg.trans (redRow_ev o md q n l m zn) ?_;rw[pol_id m (F md) (qcP U0)];have b:shN m (F md) i un=fun k=>(-1)*shN m (F md) (i-m) (F md) k+0:=by
  have h:i=(i-m)+m:=U0;conv=>lhs;rw[h]
  rw[shN_add,shN_un_top m (F md) U0];have e:(fun j=>if j<m then-F md j else 0)=fun j=>(-1)*F md j+(fun _=>(0:Int)) j:=by
   funext j;by_cases f:j<m
   . rw[if_pos f];show-F md j=-1*F md j+0;omega
   . rw[if_neg f,qcP (m:=m) U0 j U0];rfl
  rw[e,qdN,qeA]
 refine⟨fun k=>shN m (F md) (i-m) (F md) k,?_⟩;funext k;show _=_+(F c i*shN m (F md) i un k+ev m (F md) c i k);rw[b];have g:F c i=((c.getD i 0:Nat):Int):=rfl;rw[g,Int.natCast_sub (Nat.le_of_lt d)];grind
theorem red_dig{p:Nat}(b:0<p)(m:Nat)(md:LN){c:LN}(h:Dig p (2*m-1) c):∀t,Dig p (2*m-1) (red p m md c t)
 |0=>h
 |t+1=>qdW b m md _ (red_dig b m md h t) m
theorem red_ev{p m:Nat}(h:0<p)(md:LN)(g:md.length=m){c:LN}(j:Dig p (2*m-1) c):
 ∀t,t<=m-1->Cg p (ev m (F md) (red p m md c t) (2*m-1-t)) (ev m (F md) c (2*m-1))
 |0,_=>Cg.refl _ _
 |t + 1,ht=>by
   have h1:=red_step h md g (i:=2*m-2-t) U0 (red_dig h m md j t) U0
   have f:=red_ev h md g j t U0
   have b:2*m-1-(t+1)=2*m-2-t:=U0
   have d:2*m-2-t+1=2*m-1-t:=U0
   rw[b]
   rw[d] at h1
   exact Cg.trans h1 f
theorem refMulL_dig{p m:Nat}(c:0<p)(f:0<m)(md a b:LN):Dig p m (refMulL p m md a b):=by have:=red_dig c m md (qcO c m a b m) (m-1);exact⟨by simp[refMulL,this.1];omega,fun d hd=>this.2 d (List.mem_of_mem_take hd)⟩
theorem refMulL_spec{p m:Nat}(k:0<p)(o:0<m)(md a b:LN)(i:md.length=m)(n:a.length=m)(l:b.length=m):Cg p (F (refMulL p m md a b)) (mz m (F md) (F a) (F b)):=by
 have d:=red_ev k md i (qcO k m a b m) (m-1) zn;have f:2*m-1-(m-1)=m:=U0;rw[f] at d;have h:=conv_ev k (F md) a b l m zn;have g:F (refMulL p m md a b)=ev m (F md) (red p m md (conv p m a b m) (m-1)) m:=by
  unfold ev;rw[pol_un m _ _ m zn];funext j;unfold F refMulL;by_cases c:j<m
  . rw[if_pos c];simp[List.getD,c]
  . rw[if_neg c,qaZ so];rfl
 rw[g];refine Cg.trans d (Cg.trans h (Cg.of_eq ?_));exact mz_comm m _ (qcP U0) (qcP U0)
theorem refMulL_eq{p m:Nat}(f:0<p)(j:0<m)(md a b:LN)(g:md.length=m)(h:a.length=m)(i:b.length=m):refMulL p m md a b=mulL p m md a b:=by have c:=refMulL_dig f j md a b;have d:=qaW (m:=m) f md a b;exact F_inj (c.1.trans d.1.symm) c.2 d.2 ((refMulL_spec f j md a b g h i).trans (qbJ f md a b h i).symm)
structure Mon (q:Nat) (mul:Nat->Nat->Nat):Prop where
 lt:∀x y,mul x y<q
 comm:∀x y,mul x y=mul y x
 assoc:∀x y z,mul (mul x y) z=mul x (mul y z)
 one:∀x,x<q->mul 1 x=x
 zero:∀x,mul 0 x=0
 q1:1<q
def pw(mul:Nat->Nat->Nat)(x:Nat):Nat->Nat
 |0=>1
 |k+1=>mul (pw mul x k) x
def pows(mul:Nat->Nat->Nat)(x:Nat):Nat->Nat->LN->LN
 |0,_,acc=>acc
 |g+1,y,acc=>if y=0\/y∈acc then acc else pows mul x g (mul y x) (acc++[y])
def powers(mul:Nat->Nat->Nat)(q x:Nat):LN:=pows mul x q x [1]
def genGo(mul:Nat->Nat->Nat)(q:Nat):Nat->Nat->LN
 |0,_=>[]
 |g+1,x=>if(powers mul q x).length=q-1/\mul ((powers mul q x).getD (q-2) 0) x=1 then powers mul q x else genGo mul q g (x+1)
def genM(mul:Nat->Nat->Nat)(q:Nat):LN:=genGo mul q (q-1) 1
def pl(mul:Nat->Nat->Nat)(x k:Nat):LN:=(List.range k).map (pw mul x)
structure Tab (q:Nat) (mul:Nat->Nat->Nat) (l:LN):Prop where
 ex:∃x,1<=x/\x<q/\l=pl mul x (q-1)/\pw mul x (q-1)=1
 nd:l.Nodup
 nz:∀a∈l,a≠0
 lt:∀a∈l,a<q
theorem pigeon:∀ (n:Nat)(l:LN),l.Nodup->(∀ a∈l,a<n)->l.length<=n
 |0,l,_,h=>by
   cases l with
   |nil=>simp
   |cons a r=>exact absurd (h a (List.mem_cons_self ..)) U0
 | n + 1,l,hn,h => by
   by_cases hm:n∈l
   . have h1 := pigeon n (l.erase n) (hn.erase n) (fun a ha => by
      have b:=h a (List.mem_of_mem_erase ha)
      have c:a≠n:=fun e=>by subst e;exact(List.Nodup.not_mem_erase hn) ha
      omega)
     have b:=List.length_erase_of_mem hm
     omega
   . have h1 := pigeon n l hn (fun a ha => by
      have b:=h a ha
      have c:a≠n:=fun e=>by subst e;exact hm ha
      omega)
     omega
section
variable {q:Nat} {mul:Nat->Nat->Nat}
theorem pw_lt(H:Mon q mul)(x:Nat):∀k,pw mul x k<q
 |0=>H.q1
 |_+1=>H.lt _ _
theorem pw_add(H:Mon q mul)(x i:Nat):∀j,pw mul x (i+j)=mul (pw mul x i) (pw mul x j)
 |0=>by show pw mul x i=mul (pw mul x i) 1;rw[H.comm,H.one _ (pw_lt H x i)]
 |j+1=>by show mul (pw mul x (i+j)) x=mul (pw mul x i) (mul (pw mul x j) x);rw[pw_add H x i j,H.assoc]
theorem pw_zero(H:Mon q mul){x i:Nat}(h:pw mul x i=0)(j:Nat):pw mul x (i+j)=0:=by rw[pw_add H,h,H.zero]
theorem pw_per(H:Mon q mul){x n:Nat}(h:pw mul x n=1)(k:Nat):pw mul x (n+k)=pw mul x k:=by rw[pw_add H,h,H.one _ (pw_lt H x k)]
theorem pw_pers(H:Mon q mul){x n:Nat}(h:pw mul x n=1)(k:Nat):∀t,pw mul x (n*t+k)=pw mul x k
 |0=>by simp
 |t+1=>by rw[Nat.mul_succ,Nat.add_right_comm,Nat.add_comm (n*t+k) n,pw_per H h,pw_pers H h k t]
theorem pw_mod(H:Mon q mul){x n:Nat}(h:pw mul x n=1)(k:Nat):pw mul x (k % n)=pw mul x k:=by
 conv=>rhs;rw[<- Nat.div_add_mod k n]
 rw[pw_pers H h]
theorem pl_succ(x k:Nat):pl mul x (k+1)=pl mul x k++[pw mul x k]:=by simp[pl,List.range_succ]
theorem pl_len(x k:Nat):(pl mul x k).length=k:=by simp[pl]
theorem mem_pl{x k a:Nat}:a∈pl mul x k ↔ ∃i,i<k/\pw mul x i=a:=by simp[pl]
def Good(mul:Nat->Nat->Nat)(x k:Nat):Prop:=(pl mul x k).Nodup/\∀a∈pl mul x k,a≠0
theorem good_one(x:Nat):Good mul x 1:=by have e:pl mul x 1=[1]:=rfl;unfold Good;rw[e];simp
theorem good_succ{x k:Nat}(h:Good mul x k)(f:pw mul x k≠0)(g:pw mul x k∉pl mul x k):Good mul x (k+1):=by
 unfold Good at h ⊢;rw[pl_succ];refine⟨?_,?_⟩
 . rw[List.nodup_append];refine⟨h.1,U2,?_⟩;intro a c b d e;simp at d;subst d;subst e;exact g c
 . intro a c;rcases List.mem_append.1 c with h1|h1
   . exact h.2 a h1
   . simp at h1;rw[h1];exact f
theorem good_len(H:Mon q mul){x k:Nat}(h:Good mul x k):k<=q-1:=by
 have b:(0 :: pl mul x k).Nodup:=by rw[List.nodup_cons];exact⟨fun hm=>h.2 0 hm rfl,h.1⟩
 have c:=pigeon q _ b (fun a ha=>by
  rcases List.mem_cons.1 ha with rfl|ha
  . have:=H.q1;omega
  . obtain⟨i,_,rfl⟩:=mem_pl.1 ha
    exact pw_lt H x i)
 simp[pl_len] at c;omega
theorem pows_spec(H:Mon q mul)(x:Nat):∀ g k,Good mul x k->1<=k->∃ k',Good mul x k'/\k<=k'/\pows mul x g (pw mul x k) (pl mul x k)=pl mul x k'
 |0,k,h,_=>⟨k,h,Nat.le_refl _,rfl⟩
 | g + 1,k,h,hk => by
   by_cases hs:pw mul x k=0\/pw mul x k∈pl mul x k
   . exact⟨k,h,Nat.le_refl _,by simp[pows,hs]⟩
   . have hs' : pw mul x k ≠ 0/\pw mul x k ∉ pl mul x k:=⟨fun e=>hs (.inl e),fun e=>hs (.inr e)⟩
     obtain⟨k',b,d,c⟩:=pows_spec H x g (k+1) (good_succ h hs'.1 hs'.2) U0
     refine⟨k',b,U0,?_⟩
     rw[<- c,pl_succ]
     simp only[pows,if_neg hs]
     rfl
theorem powers_spec(H:Mon q mul){x:Nat}(d:x<q):∃k,Good mul x k/\1<=k/\powers mul q x=pl mul x k:=by
 have b:pw mul x 1=x:=by show mul 1 x=x;exact H.one x d
 obtain⟨k,h,c,e⟩:=pows_spec H x q 1 (good_one x) zn;rw[b] at e;exact⟨k,h,c,e⟩
theorem tab_of(H:Mon q mul){x:Nat}(o:1<=x)(l:x<q)(j:(powers mul q x).length=q-1)(h:mul ((powers mul q x).getD (q-2) 0) x=1):Tab q mul (powers mul q x):=by
 obtain⟨k,b,f,e⟩:=powers_spec H l;rw[e,pl_len] at j;subst j;rw[e] at h ⊢;have g:=H.q1;refine⟨⟨x,o,l,rfl,?_⟩,b.1,b.2,fun a ha=>?_⟩
 . obtain⟨n,d⟩:∃n,q=n+2:=⟨q-2,U0⟩;subst d;(have c:(pl mul x (n+2-1)).getD (n+2-2) 0=pw mul x n:=by simp[pl,List.getD]);rw[c] at h;exact h
 . obtain⟨i,_,rfl⟩:=mem_pl.1 ha;exact pw_lt H x i
theorem genGo_tab(H:Mon q mul):∀ g x,1<=x->x+g<=q->genGo mul q g x≠[]->Tab q mul (genGo mul q g x)
 |0,_,_,_,h=>absurd rfl h
 | g + 1,x,h1,h2,h => by
   unfold genGo at h ⊢
   by_cases hc:(powers mul q x).length=q-1/\mul ((powers mul q x).getD (q-2) 0) x=1
   . rw[if_pos hc]
     exact tab_of H h1 U0 hc.1 hc.2
   . rw[if_neg hc] at h ⊢
     exact genGo_tab H g (x+1) U0 U0 h
theorem genM_tab(H:Mon q mul)(h:genM mul q≠[]):Tab q mul (genM mul q):=genGo_tab H (q-1) 1 zn (by have:=H.q1;omega) h
def Prim(mul:Nat->Nat->Nat)(q x:Nat):Prop:=pw mul x (q-1)=1/\∀i,0<i->i<q-1->pw mul x i≠1
theorem prim_good(H:Mon q mul){x:Nat}(g:Prim mul q x):∀ k,1<=k->k<=q-1->Good mul x k
 |0,h,_=>absurd h U0
 |1,_,_=>good_one x
 | k + 2,_,hk => by
   refine good_succ (prim_good H g (k+1) U0 U0) ?_ ?_
   . intro h0
     have:=pw_zero H h0 (q-1-(k+1))
     rw[show k+1+(q-1-(k+1))=q-1 by omega,g.1] at this
     exact absurd this U0
   . intro d
     obtain⟨i,f,e⟩:=mem_pl.1 d
     have b:pw mul x (i+(q-1-i))=1:=by rw[show i+(q-1-i)=q-1 by omega];exact g.1
     have c:pw mul x (k+1+(q-1-i))=pw mul x (k+1-i):=by
      rw[show k+1+(q-1-i)=(q-1)+(k+1-i) by omega]
      exact pw_per H g.1 _
     rw[pw_add H] at b c
     rw[e,c] at b
     exact g.2 _ U0 U0 b
theorem pows_prim(H:Mon q mul){x:Nat}(f:Prim mul q x):∀ g k,1<=k->k<=q-1->q-1<=k+g->pows mul x g (pw mul x k) (pl mul x k)=pl mul x (q-1)
 |0,k,h1,h2,h3=>by
   obtain rfl:k=q-1:=U0
   rfl
 | g + 1,k,h1,h2,h3 => by
   by_cases c:k=q-1
   . subst c
     have:pw mul x (q-1)∈pl mul x (q-1):=mem_pl.2 ⟨0,U0,by rw[f.1];rfl⟩
     simp[pows,this]
   . have b := prim_good H f (k + 1) U0 U0
     have d:¬(pw mul x k=0\/pw mul x k∈pl mul x k):=by
      unfold Good at b
      rw[pl_succ] at b
      rintro(h|h)
      . exact b.2 _ (List.mem_append.2 (.inr (List.mem_singleton.2 rfl))) h
      . exact(List.nodup_append.1 b.1).2.2 _ h _ (List.mem_singleton.2 rfl) rfl
     have:=pows_prim H f g (k+1) U0 U0 U0
     rw[<- this,pl_succ]
     simp only[pows,if_neg d]
     rfl
theorem powers_prim(H:Mon q mul){x:Nat}(f:x<q)(d:Prim mul q x):powers mul q x=pl mul x (q-1):=by
 have b:pw mul x 1=x:=by show mul 1 x=x;exact H.one x f
 have c:=H.q1;have:=pows_prim H d q 1 zn U0 U0;rw[b] at this;exact this
theorem genGo_some(H:Mon q mul){x:Nat}(j:x<q)(i:Prim mul q x):∀ g y,1<=y->y<=x->x<y+g->genGo mul q g y≠[]
 |0,_,_,_,h=>absurd h U0
 | g + 1,y,h1,h2,h3 => by
   unfold genGo
   have hq:=H.q1
   by_cases b:(powers mul q y).length=q-1/\mul ((powers mul q y).getD (q-2) 0) y=1
   . rw[if_pos b]
     intro e
     rw[e] at b
     simp at b
     omega
   . rw [if_neg b]
     have f:y≠x:=by
      rintro rfl
      apply b
      rw[powers_prim H j i,pl_len]
      refine⟨rfl,?_⟩
      obtain⟨n,d⟩:∃n,q=n+2:=⟨q-2,U0⟩
      subst d
      have c:(pl mul y (n+2-1)).getD (n+2-2) 0=pw mul y n:=by simp[pl,List.getD]
      rw[c]
      exact i.1
     exact genGo_some H j i g (y+1) U0 U0 U0
theorem genM_some(H:Mon q mul){x:Nat}(b:1<=x)(d:x<q)(c:Prim mul q x):genM mul q≠[]:=genGo_some H d c (q-1) 1 zn b U0
theorem Tab.len{l:LN}(T:Tab q mul l):l.length=q-1:=by obtain⟨x,_,_,e,_⟩:=T.ex;rw[e,pl_len]
theorem Tab.full(H:Mon q mul){l:LN}(T:Tab q mul l){a:Nat}(i:a≠0)(j:a<q):a∈l:=by
 refine Classical.byContradiction fun hn=>?_;have c:(0 :: a :: l).Nodup:=by
  rw[List.nodup_cons,List.nodup_cons];refine⟨?_,hn,T.nd⟩;intro f;rcases List.mem_cons.1 f with h|h
  . exact i h.symm
  . exact T.nz 0 h rfl
 have g:=H.q1
 have d:=pigeon q _ c (fun b hb=>by
  rcases List.mem_cons.1 hb with rfl|hb
  . omega
  . rcases List.mem_cons.1 hb with rfl|hb
    . exact j
    . exact T.lt b hb)
 simp[T.len] at d;omega
def logGo(l:LN)(t:LN):Nat->LN
 |0=>t
 |n+1=>(logGo l t n).set (l.getD n 0) n
def logL(l:LN)(q:Nat):LN:=logGo l (List.replicate q 0) l.length
theorem qcL(l t:LN):∀n,(logGo l t n).length=t.length
 |0=>rfl
 |n+1=>by simp[logGo,qcL l t n]
theorem logGo_at(l t:LN)(p:l.Nodup)(o:∀ a∈l,a<t.length):∀ n,n<=l.length->∀ i,i<n->(logGo l t n).getD (l.getD i 0) 0=i
 |0,_,i,hi=>absurd hi U0
 | n + 1,hn,i,hi => by
   by_cases h:i=n
   . subst h
     have hm:l.getD i 0∈l:=by
      have:l.getD i 0=l[i]:=by simp[List.getD,show i<l.length by omega]
      rw[this]
      exact List.getElem_mem _
     have d:=o _ hm
     simp only[logGo,List.getD] at d ⊢
     rw[List.getElem?_set_self (by rw[qcL];exact d)]
     rfl
   . have f := logGo_at l t p o n U0 i U0
     have c:l.getD n 0≠l.getD i 0:=by
      have g:l.getD n 0=l[n]:=by simp[List.getD,show n<l.length by omega]
      have j:l.getD i 0=l[i]:=by simp[List.getD,show i<l.length by omega]
      rw[g,j]
      intro k
      exact List.pairwise_iff_getElem.1 p i n U0 U0 U0 k.symm
     show((logGo l t n).set (l.getD n 0) n).getD (l.getD i 0) 0=i
     generalize l.getD n 0=a at *
     generalize l.getD i 0=b at *
     generalize (logGo l t n)=u at *
     simp only[List.getD] at f ⊢
     rw[List.getElem?_set_ne c]
     exact f
def mulT(l lg:LN)(q x y:Nat):Nat:=if x=0\/y=0 then 0 else l.getD ((lg.getD x 0+lg.getD y 0) % (q-1)) 0
def invT(l lg:LN)(q x:Nat):Nat:=l.getD ((q-1-lg.getD x 0) % (q-1)) 0
theorem Tab.log(H:Mon q mul){l:LN}(T:Tab q mul l){a:Nat}(f:a≠0)(g:a<q):
 (logL l q).getD a 0<q-1/\l.getD ((logL l q).getD a 0) 0=a:=by
 have d:=T.full H f g;obtain⟨i,b,e⟩:=List.mem_iff_getElem.1 d;have c:l.getD i 0=a:=by simp[List.getD,b,e]
 have:=logGo_at l (List.replicate q 0) T.nd (by simpa using T.lt) l.length zn i b;unfold logL;rw[c] at this;rw[this];exact⟨by rw[<- T.len];exact b,c⟩
theorem Tab.get{l:LN}(T:Tab q mul l):∃x,1<=x/\x<q/\pw mul x (q-1)=1/\∀i,i<q-1->l.getD i 0=pw mul x i:=by obtain⟨x,b,c,rfl,d⟩:=T.ex;exact⟨x,b,c,d,fun i hi=>by simp[pl,List.getD,hi]⟩
theorem Tab.mul_eq(H:Mon q mul){l:LN}(T:Tab q mul l){x y:Nat}(n:x<q)(o:y<q):mulT l (logL l q) q x y=mul x y:=by
 unfold mulT;by_cases h:x=0\/y=0
 . rw[if_pos h];rcases h with rfl|rfl
   . rw[H.zero]
   . rw[H.comm,H.zero]
 . rw[if_neg h];have c:x≠0:=fun e=>h (.inl e);have d:y≠0:=fun e=>h (.inr e);obtain⟨f,g⟩:=T.log H c n;obtain⟨i,j⟩:=T.log H d o;obtain⟨z,_,_,k,b⟩:=T.get;have m:=H.q1;rw[b _ (Nat.mod_lt _ U0),pw_mod H k,pw_add H,<- b _ f,<- b _ i,g,j]
theorem Tab.inv(H:Mon q mul){l:LN}(T:Tab q mul l){x:Nat}(n:x≠0)(o:x<q):mul x (invT l (logL l q) q x)=1/\invT l (logL l q) q x<q/\invT l (logL l q) q x≠0:=by
 obtain⟨g,j⟩:=T.log H n o;obtain⟨z,_,_,f,d⟩:=T.get;have k:=H.q1;have e:invT l (logL l q) q x=pw mul z (q-1-(logL l q).getD x 0):=by unfold invT;rw[d _ (Nat.mod_lt _ U0),pw_mod H f]
 rw[e];have b:mul x (pw mul z (q-1-(logL l q).getD x 0))=1:=by
  have c:x=pw mul z ((logL l q).getD x 0):=by rw[<- d _ g,j]
  generalize (logL l q).getD x 0=i at *;rw[c,<- pw_add H,show i+(q-1-i)=q-1 by omega,f]
 refine⟨b,pw_lt H z _,fun h=>?_⟩;rw[h,H.comm,H.zero] at b;exact absurd b U0
theorem Tab.inv_uniq(H:Mon q mul){x y z:Nat}(g:y<q)(h:z<q)(d:mul x y=1)(f:mul x z=1):y=z:=by
 have b:mul (mul z x) y=y:=by rw[H.comm z x,f,H.one y g]
 have c:mul (mul z x) y=z:=by rw[H.assoc,d,H.comm,H.one z h]
 exact b.symm.trans c
theorem Tab.nodiv(H:Mon q mul){l:LN}(T:Tab q mul l){x y:Nat}(p:x<q)(r:y<q)(n:x≠0)(o:y≠0):mul x y≠0:=by
 obtain⟨f,g⟩:=T.log H n p;obtain⟨h,i⟩:=T.log H o r;obtain⟨z,_,_,j,c⟩:=T.get;have k:=H.q1;intro d;have e:mul x y=pw mul z (((logL l q).getD x 0+(logL l q).getD y 0) % (q-1)):=by rw[pw_mod H j,pw_add H,<- c _ f,<- c _ h,g,i]
 have b:((logL l q).getD x 0+(logL l q).getD y 0) % (q-1)<q-1:=Nat.mod_lt _ U0;rw[e,<- c _ b] at d;refine T.nz _ ?_ d;have:l.getD (((logL l q).getD x 0+(logL l q).getD y 0) % (q-1)) 0=l[((logL l q).getD x 0+(logL l q).getD y 0) % (q-1)]'(by rw[T.len];exact b):=by rw[List.getD_eq_getElem?_getD,List.getElem?_eq_getElem (by rw[T.len];exact b)];rfl
 rw[this];exact List.getElem_mem _
def invGo(mul:Nat->Nat->Nat)(x:Nat):Nat->Nat->Nat
 |0,_=>0
 |g+1,y=>if mul x y=1 then y else invGo mul x g (y+1)
def refInv(mul:Nat->Nat->Nat)(q x:Nat):Nat:=invGo mul x (q-1) 1
theorem invGo_spec(H:Mon q mul){x z:Nat}(b:z<q)(h:mul x z=1):∀ g y,y<=z->z<y+g->y+g<=q->invGo mul x g y=z
 |0,_,_,h2,_=>absurd h2 U0
 | g + 1,y,h1,h2,h3 => by
   unfold invGo
   by_cases hc:mul x y=1
   . rw[if_pos hc]
     exact Tab.inv_uniq H U0 b hc h
   . rw[if_neg hc]
     have:y≠z:=fun e=>hc (e ▸ h)
     exact invGo_spec H b h g (y+1) U0 U0 U0
theorem refInv_eq(H:Mon q mul){l:LN}(T:Tab q mul l){x:Nat}(g:x≠0)(h:x<q):refInv mul q x=invT l (logL l q) q x:=by obtain⟨b,c,d⟩:=T.inv H g h;have f:=H.q1;exact invGo_spec H c b (q-1) 1 U0 U0 U0
end
def mulM(p m:Nat)(md:LN)(x y:Nat):Nat:=val p (mulL p m md (digs p m x) (digs p m y))
theorem mulM_dig{p m:Nat}(b:0<p)(md:LN)(x y:Nat):digs p m (mulM p m md x y)=mulL p m md (digs p m x) (digs p m y):=by have h:=qaW (m:=m) b md (digs p m x) (digs p m y);have:=qcR b _ h.2;rw[h.1] at this;exact this
theorem F_digs_zero(p m:Nat):F (digs p m 0)=fun _=>0:=by
 have:∀m,digs p m 0=List.replicate m 0:=by
  intro m;induction m with
  |zero=>rfl
  |succ m ih=>simp[digs,ih,List.replicate_succ]
 rw[this,F_zero]
theorem digs_zero(p:Nat):∀m,digs p m 0=List.replicate m 0
 |0=>rfl
 |m+1=>by simp[digs,digs_zero p m,List.replicate_succ]
theorem val_zero(p:Nat):∀m,val p (List.replicate m 0)=0
 |0=>rfl
 |m+1=>by simp[val,val_zero p m,List.replicate_succ]
theorem F_digs_one{p m:Nat}(b:1<p)(c:0<m):F (digs p m 1)=un:=by
 obtain⟨n,rfl⟩:∃n,m=n+1:=⟨m-1,U0⟩;have e:digs p (n+1) 1=1 :: List.replicate n 0:=by simp only[digs];rw[Nat.mod_eq_of_lt b,Nat.div_eq_of_lt b,digs_zero]
 rw[e];funext j;cases j with
 |zero=>rfl
 |succ j=>rw[F_cons,F_zero];rfl
theorem dig_zero_of{p m:Nat}{l:LN}(h:Dig p m l)(c:Cg p (F l) (fun _=>0)):l=List.replicate m 0:=by
 refine F_inj (p:=p) (by simp[h.1]) h.2 ?_ ?_
 . intro d hd;have b:0<p:=by
    cases l with
    |nil=>have:=h.1;simp at this;subst this;simp at hd
    |cons a r=>have:=h.2 a (List.mem_cons_self ..);omega
   simp at hd;omega
 . rw[F_zero];exact c
theorem qaV{p m:Nat}(d:1<p)(f:0<m)(md:LN):Mon (p ^ m) (mulM p m md) where
 lt x y:=by
  have h:=qaW (m:=m) (by omega:0<p) md (digs p m x) (digs p m y)
  have:=val_lt (by omega:0<p) _ h.2
  rw[h.1] at this
  exact this
 comm x y:=by unfold mulM;rw[mulL_comm U0 md _ _ (qaK p m x) (qaK p m y)]
 assoc x y z:=by
  show val p (mulL p m md (digs p m (mulM p m md x y)) (digs p m z))=val p (mulL p m md (digs p m x) (digs p m (mulM p m md y z)))
  rw[mulM_dig U0,mulM_dig U0,mulL_assoc U0 md _ _ _ (qaK p m x) (qaK p m y) (qaK p m z)]
 one x hx:=by
  have h:=qaW (m:=m) (by omega:0<p) md (digs p m 1) (digs p m x)
  have b:=qcB (by omega:0<p) m x
  have e:mulL p m md (digs p m 1) (digs p m x)=digs p m x:=by
   refine F_inj (p:=p) (h.1.trans b.1.symm) h.2 b.2 ?_
   refine(qbJ U0 md _ _ (qaK p m 1) (qaK p m x)).trans (Cg.of_eq ?_)
   rw[F_digs_one d f,mz_un]
   funext j
   by_cases c:j<m
   . rw[if_pos c]
   . rw[if_neg c,qcP (m:=m) (by rw[b.1];exact Nat.le_refl _) j U0]
  unfold mulM
  rw[e,val_digs U0 m x hx]
 zero x:=by
  have h:=qaW (m:=m) (by omega:0<p) md (digs p m 0) (digs p m x)
  have e:mulL p m md (digs p m 0) (digs p m x)=List.replicate m 0:=by
   refine dig_zero_of h ?_
   refine(qbJ U0 md _ _ (qaK p m 0) (qaK p m x)).trans (Cg.of_eq ?_)
   rw[F_digs_zero]
   exact pol_zero m _ _ m
  unfold mulM
  rw[e,val_zero]
 q1:=Nat.one_lt_pow U0 d
def divRow(p d:Nat)(low:LN)(i c:Nat)(r:LN):Nat->LN
 |0=>r
 |j+1=>addAt p (divRow p d low i c r j) (i-d+j) ((p-c)*low.getD j 0)
def divGo(p:Nat)(low r:LN):Nat->LN
 |0=>r
 |t+1=>(divRow p low.length low (r.length-1-t) ((divGo p low r t).getD (r.length-1-t) 0) (divGo p low r t) low.length).set (r.length-1-t) 0
def dividesM(p:Nat)(low md:LN):Bool:=(divGo p low (md++[1]) (md.length+1-low.length)).all (·==0)
def irrM(p:Nat)(md:LN):Bool:=(List.range (md.length / 2)).all fun d=>(List.range (p^(d+1))).all fun v=>!dividesM p (digs p (d+1) v) md
theorem qcY{p n:Nat}(b:0<p)(d:Nat)(low:LN)(i c:Nat){r:LN}(h:Dig p n r):∀j,Dig p n (divRow p d low i c r j)
 |0=>h
 |j+1=>addAt_dig b (qcY b d low i c h j) _ _
theorem divGo_dig{p n:Nat}(b:0<p)(low:LN){r:LN}(h:Dig p n r):∀ t,Dig p n (divGo p low r t)
 |0=>h
 |t + 1=>by
   have h1:=qcY b low.length low (r.length-1-t) ((divGo p low r t).getD (r.length-1-t) 0) (divGo_dig b low h t) low.length
   refine⟨by unfold divGo;rw[List.length_set];exact h1.1,fun d hd=>?_⟩
   rcases List.mem_or_eq_of_mem_set hd with h'|rfl
   . exact h1.2 _ h'
   . exact b
theorem divRow_ev{p m:Nat}(f:0<p)(md:Vec)(low:LN)(i c:Nat){n:Nat}{r:LN}(g:Dig p n r)(hd:low.length<=i)(h:i<n):
 ∀j,j<=low.length->Cg p (ev m md (divRow p low.length low i c r j) n) (fun k=>(((p-c:Nat):Int))*shN m md (i-low.length) (pol m md (F low) j un) k+ev m md r n k)
 |0,_=>by
   apply Cg.of_eq
   funext k
   simp[divRow,pol,qeA]
 |j + 1,hj=>by
   have h1:=ev_addAt (p:=p) (m:=m) md (n:=n) (c:=divRow p low.length low i c r j) (Nat.le_of_eq (qcY f low.length low i c g j).1.symm) (i-low.length+j) ((p-c)*low.getD j 0) U0
   have d:=divRow_ev (m:=m) f md low i c g hd h j U0
   refine Cg.trans h1 (Cg.trans (Cg.lin _ (Cg.refl _ _) d) (Cg.of_eq ?_))
   funext k
   have e:pol m md (F low) (j+1) un=fun k=>F low j*shN m md j un k+pol m md (F low) j un k:=rfl
   rw[e,qdN,<- shN_add]
   have b:F low j=((low.getD j 0:Nat):Int):=rfl
   rw[b,Int.natCast_mul]
   grind
theorem divRow_at{p:Nat}(d:Nat)(low:LN){i:Nat}(hd:d<=i)(c:Nat)(r:LN):∀ j,j<=d->(divRow p d low i c r j).getD i 0=r.getD i 0
 |0,_=>rfl
 |j + 1,hj=>by
   have:=divRow_at (p:=p) d low hd c r j U0
   rw[<- this]
   simp only[divRow,addAt,List.getD]
   rw[List.getElem?_set_ne U0]
theorem F_set0{r:LN}{i:Nat}(c:i<r.length):F (r.set i 0)=fun j=>(- ((r.getD i 0:Nat):Int))*(if j=i then 1 else 0)+F r j:=by
 funext j;unfold F;by_cases b:j=i
 . subst b;rw[if_pos rfl];simp[List.getD,c];omega
 . rw[if_neg b];simp only[List.getD];rw[List.getElem?_set_ne U0];simp
def G(m:Nat)(md:Vec)(low:LN):Vec:=fun k=>shN m md low.length un k+pol m md (F low) low.length un k
theorem div_step{p m:Nat}(o:0<p)(md:Vec)(low:LN)(i:Nat){n:Nat}{r:LN}(s:Dig p n r)(hd:low.length<=i)(t:i<n):
 Cg p (ev m md ((divRow p low.length low i (r.getD i 0) r low.length).set i 0) n) (fun k=>(- ((r.getD i 0:Nat):Int))*shN m md (i-low.length) (G m md low) k+ev m md r n k):=by
 have h:=divRow_ev (m:=m) o md low i (r.getD i 0) s hd t low.length zn;have l:=(qcY o low.length low i (r.getD i 0) s low.length).1;have b:=divRow_at (p:=p) low.length low hd (r.getD i 0) r low.length zn;have c:=getD_lt o s i;generalize j:divRow p low.length low i (r.getD i 0) r low.length=D at *;have d:ev m md (D.set i 0) n=fun k=>(- ((D.getD i 0:Nat):Int))*shN m md i un k+ev m md D n k:=by unfold ev;rw[F_set0 U0,qdZ,pol_delta m md i un n t]
 rw[d,b];refine Cg.trans (Cg.lin _ (Cg.refl _ _) h) ?_;have f:shN m md i un=shN m md (i-low.length) (shN m md low.length un):=by rw[<- shN_add];congr 1;omega
 have g:G m md low=fun k=>1*shN m md low.length un k+pol m md (F low) low.length un k:=by funext k;simp[G]
 rw[f,g,qdN];refine⟨fun k=>shN m md (i-low.length) (pol m md (F low) low.length un) k,?_⟩;funext k;rw[Int.natCast_sub (Nat.le_of_lt c)];grind
theorem div_all{p m:Nat}(A:0<p)(md:Vec)(low:LN){r:LN}(C:Dig p (m+1) r)(hd:low.length<=m)(z:r.getD m 0=1)(B:1<p):
 ∀t,t<=m+1-low.length->∃h:Nat->Nat,(∀k,h k<p)/\(∀k,m-low.length<k->h k=0)/\(∀k,k+t<m+1-low.length->h k=0)/\(0<t->h (m-low.length)=1)/\
  Cg p (ev m md (divGo p low r t) (m+1)) (fun j=>(-1)*pol m md (fun k=>(h k:Int)) (m+1-low.length) (G m md low) j+ev m md r (m+1) j)
 | 0,_ => by
   refine⟨fun _=>0,fun _=>A,fun _ _=>rfl,fun _ _=>rfl,fun h=>absurd h U0,Cg.of_eq ?_⟩
   funext j
   have h0:∀n,pol m md (fun _=>((0:Nat):Int)) n (G m md low)=fun _=>0:=by
    intro n
    induction n with
    |zero=>rfl
    |succ n ih=>funext j;show((0:Nat):Int)*_+pol m md (fun _=>((0:Nat):Int)) n (G m md low) j=0;rw[ih];simp
   rw[h0]
   simp[divGo]
 | t + 1,ht => by
   obtain⟨h,l,o,f,q,s⟩:=div_all A md low C hd z B t U0
   have g:=divGo_dig A low C t
   have v:r.length-1-t=m-t:=by rw[C.1];omega
   have x:=div_step (m:=m) A md low (m-t) g U0 U0
   have d:=getD_lt A g (m-t)
   have e:divGo p low r (t+1)=(divRow p low.length low (m-t) ((divGo p low r t).getD (m-t) 0) (divGo p low r t) low.length).set (m-t) 0:=by
    show(divRow p low.length low (r.length-1-t) ((divGo p low r t).getD (r.length-1-t) 0) (divGo p low r t) low.length).set (r.length-1-t) 0=_
    rw[v]
   generalize u:(divGo p low r t).getD (m-t) 0=c at *
   refine⟨fun k=>if k=m-t-low.length then c else h k,?_,?_,?_,?_,?_⟩
   . intro k
     show(if k=m-t-low.length then c else h k)<p
     split
     . exact d
     . exact l k
   . intro k b
     show(if k=m-t-low.length then c else h k)=0
     rw[if_neg U0]
     exact o k b
   . intro k b
     show(if k=m-t-low.length then c else h k)=0
     rw[if_neg U0]
     exact f k U0
   . intro _
     show(if m-low.length=m-t-low.length then c else h (m-low.length))=1
     by_cases h0:t=0
     . subst h0
       rw[if_pos U0,<- u]
       exact z
     . rw[if_neg U0]
       exact q U0
   . rw [e]
     refine Cg.trans x (Cg.trans (Cg.lin _ (Cg.refl _ _) s) (Cg.of_eq ?_))
     have y:h (m-t-low.length)=0:=f _ U0
     have i:(fun k=>(((if k=m-t-low.length then c else h k):Nat):Int))=fun k=>(c:Int)*(if k=m-t-low.length then 1 else 0)+(fun k=>(h k:Int)) k:=by
      funext k
      by_cases b:k=m-t-low.length
      . subst b
        simp[y]
      . simp[b]
     rw[i,qdZ,pol_delta m md (m-t-low.length) (G m md low) (m+1-low.length) U0]
     funext j
     grind
theorem ev_zero(m:Nat)(md:Vec)(r:LN)(h:r.all (·==0)=true)(n:Nat):ev m md r n=fun _=>0:=by
 have d:F r=fun _=>0:=by
  funext j;unfold F;by_cases c:j<r.length
  . (have:r.getD j 0=r[j]:=by simp[List.getD,c]);rw[this];have b:=List.all_eq_true.1 h _ (List.getElem_mem c);simp at b;simp[b]
  . rw[qaZ U0];rfl
 unfold ev;rw[d];induction n with
 |zero=>rfl
 |succ n ih=>funext j;simp[pol,ih]
theorem ev_self{m:Nat}(g:0<m)(md:LN)(f:md.length=m):ev m (F md) (md++[1]) (m+1)=fun _=>0:=by
 unfold ev;have c:∀k,k<=m->pol m (F md) (F (md++[1])) k un=pol m (F md) (F md) k un:=by
  intro k;induction k with
  |zero=>intro _;rfl
  |succ k ih=>intro d;funext j;simp only[pol,ih U0];(have:F (md++[1]) k=F md k:=by unfold F;simp only[List.getD];rw[List.getElem?_append_left U0]);rw[this]
 funext j;show F (md++[1]) m*shN m (F md) m un j+pol m (F md) (F (md++[1])) m un j=0;rw[c m zn,pol_id m (F md) (qcP U0),shN_un_top m (F md) g];have:F (md++[1]) m=1:=by unfold F;simp[List.getD,<- f]
 rw[this];simp only;by_cases b:j<m
 . rw[if_pos b];omega
 . rw[if_neg b,qcP (m:=m) U0 j U0];rfl
theorem val_ne{p:Nat}(c:0<p):∀ (l:LN)(j:Nat),l.getD j 0≠0->val p l≠0
 |[],j,h=>by simp at h
 |d :: r,0,h=>by
   simp[List.getD] at h
   simp only[val]
   omega
 |d :: r,j + 1,h=>by
   have:=val_ne c r j (by simpa[List.getD] using h)
   simp only[val]
   have b:0<p*val p r:=Nat.mul_pos c U0
   omega
theorem div_zero{p m:Nat}(Q:1<p)(md low:LN)(M:Dig p m md)(O:∀ d∈low,d<p)(P:1<=low.length)(N:low.length<m)(h:dividesM p low md=true):
 ∃x y,x<p^m/\y<p^m/\x≠0/\y≠0/\mulM p m md x y=0:=by
 have J:0<m:=U0;have K:Dig p (m+1) (md++[1]):=by
  refine⟨by simp[M.1],fun d hd=>?_⟩;rcases List.mem_append.1 hd with h|h
  . exact M.2 d h
  . simp at h;omega
 have r:(md++[1]).getD m 0=1:=by simp[List.getD,<- M.1]
 obtain⟨g,D,A,_,E,B⟩:=div_all (m:=m) U0 (F md) low K U0 r Q (m+1-low.length) zn;unfold dividesM at h;rw[M.1] at h;rw[ev_zero m (F md) _ h,ev_self J md M.1] at B;have H:Cg p (pol m (F md) (fun k=>(g k:Int)) (m+1-low.length) (G m (F md) low)) (fun _=>0):=by obtain⟨t,L⟩:=B;refine⟨t,?_⟩;funext j;have:=congrFun L j;simp only[Int.add_zero] at this ⊢;omega
 have s:∀n,pol m (F md) (fun k=>(g k:Int)) (m+1-low.length+n) (G m (F md) low)=pol m (F md) (fun k=>(g k:Int)) (m+1-low.length) (G m (F md) low):=by
  intro n;induction n with
  |zero=>rfl
  |succ n ih=>funext j;show(g (m+1-low.length+n):Int)*_+pol m (F md) (fun k=>(g k:Int)) (m+1-low.length+n) (G m (F md) low) j=_;rw[A _ U0,ih];simp
 have I:Cg p (mz m (F md) (G m (F md) low) (fun k=>(g k:Int))) (fun _=>0):=by have:=s (low.length-1);rw[show m+1-low.length+(low.length-1)=m by omega] at this;unfold mz;rw[this];exact H
 have l:F (low++[1]++List.replicate (m-1-low.length) 0)=G m (F md) low:=by
  unfold G;rw[shN_un m (F md) _ N,pol_un m (F md) _ _ U0];funext j;unfold F;by_cases q:j<low.length
  . (have i:¬j=low.length:=by omega);simp only[if_neg i,if_pos q,List.getD];rw[List.append_assoc,List.getElem?_append_left q];omega
  . by_cases i : j = low.length
    . subst i;simp[List.getD]
    . simp only[if_neg i,if_neg q,List.getD];rw[List.getElem?_append_right so];simp[List.getElem?_replicate];split<;>simp
 have c:Dig p m (low++[1]++List.replicate (m-1-low.length) 0):=by
  refine⟨so,fun d hd=>?_⟩;simp at hd;rcases hd with h|h|h
  . exact O d h
  . omega
  . omega
 have f:Dig p m ((List.range m).map g):=by refine⟨U2,fun d hd=>?_⟩;obtain⟨k,_,rfl⟩:=List.mem_map.1 hd;exact D k
 have u:F ((List.range m).map g)=fun k=>(g k:Int):=by
  funext j;unfold F;by_cases q:j<m
  . simp[List.getD,q]
  . rw[qaZ so,A j U0]
 generalize low++[1]++List.replicate (m-1-low.length) 0=o at l c;have b:0<p:=U0;refine⟨val p o,val p ((List.range m).map g),?_,?_,?_,?_,?_⟩
 . have:=val_lt b o c.2;rwa [c.1] at this
 . have:=val_lt b _ f.2;rwa [f.1] at this
 . apply val_ne b o low.length;intro C;(have:F o low.length=0:=by unfold F;rw[C];rfl);rw[l] at this;unfold G at this;rw[shN_un m (F md) _ N,pol_un m (F md) _ _ U0] at this;simp at this
 . apply val_ne b _ (m-low.length);have:=E U0;simp[List.getD,show m-low.length<m by omega,this]
 . unfold mulM;have v:=qcR b o c.2;have z:=qcR b _ f.2;rw[c.1] at v;rw[f.1] at z;rw[v,z];have hd:=qaW (m:=m) b md o ((List.range m).map g);have:=dig_zero_of hd (Cg.trans (qbJ b md _ _ c.1 f.1) (by rw[l,u];exact I));rw[this,val_zero]
theorem irr_of_tab{p m:Nat}(r:1<p)(md:LN)(o:Dig p m md){l:LN}(T:Tab (p^m) (mulM p m md) l):irrM p md=true:=by
 refine Classical.byContradiction fun b=>?_;rw[Bool.not_eq_true] at b;unfold irrM at b;rw[List.all_eq_false] at b;obtain⟨d,hd,b⟩:=b;rw[Bool.not_eq_true,List.all_eq_false] at b;obtain⟨v,n,b⟩:=b;simp at b hd;have h:=o.1;by_cases g:0<m
 . obtain⟨x,y,i,j,c,f,k⟩:=div_zero r md (digs p (d+1) v) o (qdU U0 _ _) (by rw[qaK];omega) (by rw[qaK];omega) b;exact T.nodiv (qaV r g md) i j c f k
 . omega
def pwF(mul:Nat->Nat->Nat)(x:Nat):Nat->Nat->Nat
 |0,_=>1
 |g+1,n=>if n=0 then 1 else if n % 2=1 then mul (mul (pwF mul x g (n / 2)) (pwF mul x g (n / 2))) x else mul (pwF mul x g (n / 2)) (pwF mul x g (n / 2))
def primT(mul:Nat->Nat->Nat)(n:Nat)(rs:LN)(x:Nat):Bool:=pwF mul x 9 n==1 && rs.all fun r=>pwF mul x 9 (n / r) != 1
def rsOK(n:Nat)(rs:LN):Bool:=(List.range n).all fun d=>d==0 || n % d != 0 || rs.any fun r=>n / r % d==0
section
variable {q:Nat} {mul:Nat->Nat->Nat}
theorem pwF_eq(H:Mon q mul)(x:Nat):∀ g n,n<2 ^ g->pwF mul x g n=pw mul x n
 |0,n,h=>by
   have:n=0:=by simpa using h
   subst this
   rfl
 | g + 1,n,h => by
   have d:=pwF_eq H x g (n / 2) (by rw[Nat.pow_succ] at h;omega)
   unfold pwF
   rw[d,<- pw_add H]
   by_cases b:n=0
   . rw[if_pos b,b]
     rfl
   . rw [if_neg b]
     by_cases c:n % 2=1
     . rw[if_pos c]
       show pw mul x (n / 2+n / 2+1)=_
       congr 1
       omega
     . rw[if_neg c]
       congr 1
       omega
theorem low_order(H:Mon q mul){x n:Nat}(j:pw mul x n=1):∀i,0<i->i<n->pw mul x i=1->∃d,0<d/\d<n/\n % d=0/\pw mul x d=1:=by
 intro i;induction i using Nat.strongRecOn with
 |_ i ih=>
  intro b f c;by_cases g:n % i=0
  . exact⟨i,b,f,g,c⟩
  . have h:n % i<i:=Nat.mod_lt _ b;exact ih (n % i) h U0 U0 (by rw[pw_mod H c,j])
theorem prim_of(H:Mon q mul){y:LN}(v:rsOK (q-1) y=true)(z:q<=256){x:Nat}(h:primT mul (q-1) y x=true):Prim mul q x:=by
 unfold primT at h;rw[Bool.and_eq_true] at h;obtain⟨g,n⟩:=h;rw[pwF_eq H x 9 _ U0] at g;have c:pw mul x (q-1)=1:=by simpa using g
 refine⟨c,fun i h0 hi he=>?_⟩;obtain⟨d,u,k,l,m⟩:=low_order H c i h0 hi he;unfold rsOK at v;have b:=List.all_eq_true.1 v d (List.mem_range.2 k);simp only[Bool.or_eq_true,beq_iff_eq,bne_iff_ne,ne_eq] at b;rcases b with(b|b)|b
 . omega
 . exact b l
 . obtain⟨r,t,o⟩:=List.any_eq_true.1 b;have f:=List.all_eq_true.1 n r t;(have p:(q-1) / r<2^9:=by have:=Nat.div_le_self (q-1) r;omega);rw[pwF_eq H x 9 _ p] at f;(have s:(q-1) / r % d=0:=by simpa using o);have j:=pw_mod H m ((q-1) / r);rw[s] at j;simp at f;exact f j.symm
end
def force{α:Type}(n:Nat)(f:Nat->α):α:=Nat.rec (f 0) (fun k _=>f (k+1)) n
theorem force_eq{α:Type}(n:Nat)(f:Nat->α):force n f=f n:=by cases n<;>rfl
def fl{α:Type}:LN->(LN->α)->α
 |[],k=>k []
 |x :: r,k=>force x fun y=>fl r fun s=>k (y :: s)
theorem fl_eq{α:Type}:∀(l:LN)(k:LN->α),fl l k=k l
 |[],_=>rfl
 |x :: r,k=>by simp only[fl,force_eq,fl_eq r]
def mulLS{α:Type}(p m:Nat)(md a:LN):LN->(LN->α)->α
 |[],k=>k (List.replicate m 0)
 |x :: r,k=>mulLS p m md a r fun out=>fl (stepM p m md a x out) k
theorem mulLS_eq{α:Type}(p m:Nat)(md a:LN):∀(b:LN)(k:LN->α),mulLS p m md a b k=k (mulL p m md a b)
 |[],_=>rfl
 |x :: r,k=>by simp only[mulLS,mulLS_eq p m md a r,fl_eq];rfl
def mulMS{α:Type}(p m:Nat)(md:LN)(x y:Nat)(k:Nat->α):α:=fl (digs p m x) fun a=>fl (digs p m y) fun b=>mulLS p m md a b fun l=>force (val p l) k
theorem mulMS_eq{α:Type}(p m:Nat)(md:LN)(x y:Nat)(k:Nat->α):mulMS p m md x y k=k (mulM p m md x y):=by unfold mulMS mulM;rw[fl_eq,fl_eq,mulLS_eq,force_eq]
def pwS{α:Type}(p m:Nat)(md:LN)(x:Nat):Nat->Nat->(Nat->α)->α
 |0,_,k=>k 1
 |g+1,n,k=>if n=0 then k 1 else force (n / 2) fun h=>pwS p m md x g h fun y=>mulMS p m md y y fun s=>if n % 2=1 then mulMS p m md s x k else k s
theorem pwS_eq{α:Type}(p m:Nat)(md:LN)(x:Nat):∀ (g n:Nat)(k:Nat->α),pwS p m md x g n k=k (pwF (mulM p m md) x g n)
 |0,_,_=>rfl
 | g + 1,n,k => by
   unfold pwS pwF
   by_cases h0:n=0
   . rw[if_pos h0,if_pos h0]
   . rw[if_neg h0,if_neg h0,force_eq,pwS_eq p m md x g,mulMS_eq]
     by_cases h1:n % 2=1
     . rw[if_pos h1,if_pos h1,mulMS_eq]
     . rw[if_neg h1,if_neg h1]
def primS(p m:Nat)(md:LN)(n:Nat)(rs:LN)(x:Nat):Bool:=pwS p m md x 9 n (·==1) && rs.all fun r=>force (n / r) fun e=>pwS p m md x 9 e (· != 1)
theorem primS_eq(p m:Nat)(md:LN)(n:Nat)(b:LN)(x:Nat):primS p m md n b x=primT (mulM p m md) n b x:=by unfold primS primT;simp only[force_eq,pwS_eq]
def divRowS{α:Type}(p d:Nat)(low:LN)(i c:Nat)(r:LN):Nat->(LN->α)->α
 |0,k=>k r
 |j+1,k=>divRowS p d low i c r j fun s=>fl (addAt p s (i-d+j) ((p-c)*low.getD j 0)) k
theorem divRowS_eq{α:Type}(p d:Nat)(low:LN)(i c:Nat)(r:LN):∀(j:Nat)(k:LN->α),divRowS p d low i c r j k=k (divRow p d low i c r j)
 |0,_=>rfl
 |j+1,k=>by simp only[divRowS,divRowS_eq p d low i c r j,fl_eq];rfl
def divGoS{α:Type}(p:Nat)(low r:LN):Nat->(LN->α)->α
 |0,k=>k r
 |t+1,k=>divGoS p low r t fun s=>force (r.length-1-t) fun i=>force (s.getD i 0) fun c=>divRowS p low.length low i c s low.length fun u=>fl (u.set i 0) k
theorem divGoS_eq{α:Type}(p:Nat)(low r:LN):∀(t:Nat)(k:LN->α),divGoS p low r t k=k (divGo p low r t)
 |0,_=>rfl
 |t+1,k=>by simp only[divGoS,divGoS_eq p low r t,fl_eq,force_eq,divRowS_eq];rfl
def okV(p m:Nat)(rs:LN)(v d w:Nat):Bool:=
 fl (digs p m v) fun md=>if d=0 then w != 0 && Nat.blt w (p^m) && primS p m md (p^m-1) rs w
  else Nat.ble (2*d) m && Nat.blt w (p^d) && fl (digs p d w) fun low=>divGoS p low (md++[1]) (m+1-d) fun r=>r.all (·==0)
def chkV(p m:Nat)(rs:LN):Nat->List (Nat × Nat)->Bool
 |v,[]=>v==p^m
 |v,e :: r=>okV p m rs v e.1 e.2 && chkV p m rs (v+1) r
theorem okV_spec{p m:Nat}(r:1<p)(o:0<m)(s:p^m<=256){n:LN}(k:rsOK (p^m-1) n=true){v d w:Nat}(h:okV p m n v d w=true)(l:irrM p (digs p m v)=true):genM (mulM p m (digs p m v)) (p^m)≠[]:=by
 unfold okV at h;rw[fl_eq] at h;by_cases hd:d=0
 . rw[if_pos hd,primS_eq] at h;simp only[Bool.and_eq_true,bne_iff_ne,ne_eq,Nat.blt_eq] at h;have H:=qaV r o (digs p m v);exact genM_some H U0 h.1.2 (prim_of H k s h.2)
 . rw[if_neg hd,fl_eq,divGoS_eq] at h;simp only[Bool.and_eq_true,Nat.blt_eq,Nat.ble_eq] at h;obtain⟨⟨j,g⟩,i⟩:=h;exfalso;(have b:dividesM p (digs p d w) (digs p m v)=true:=by unfold dividesM;rw[qaK,qaK];exact i);unfold irrM at l;have c:=List.all_eq_true.1 l (d-1) (List.mem_range.2 (by rw[qaK];omega));rw[show d-1+1=d by omega] at c;have f:=List.all_eq_true.1 c w (List.mem_range.2 g);rw[b] at f;cases f
theorem chkV_spec{p m:Nat}{c:LN}:∀ (t:List (Nat × Nat))(v u:Nat),chkV p m c v t=true->v<=u->u<p ^ m->∃ d w,okV p m c u d w=true
 |[],v,u,h,h1,h2=>by
   have:v=p^m:=by simpa[chkV] using h
   omega
 | e :: r,v,u,h,h1,h2 => by
   unfold chkV at h
   rw[Bool.and_eq_true] at h
   by_cases b:v=u
   . subst b
     exact⟨_,_,h.1⟩
   . exact chkV_spec r (v+1) u h.2 U0 h2
theorem qbS{p m:Nat}(i:1<p)(k:0<m)(o:p^m<=256){l:LN}{t:List (Nat × Nat)}(j:rsOK (p^m-1) l=true)(n:chkV p m l 0 t=true){md:LN}(g:Dig p m md):(genM (mulM p m md) (p^m)≠[]) ↔ irrM p md=true:=by
 constructor
 . intro h;exact irr_of_tab i md g (genM_tab (qaV i k md) h)
 . intro h;have b:0<p:=U0;have f:=val_lt b md g.2;have e:=qcR b md g.2;rw[g.1] at f e;obtain⟨d,w,c⟩:=chkV_spec t 0 (val p md) n (Nat.zero_le _) f;have:=okV_spec i k o j c (by rw[e];exact h);rw[e] at this;exact this
def primeB(n:Nat):Bool:=(List.range n).all fun d=>Nat.blt d 2 || n % d != 0
def divsOf(n:Nat):LN:=(List.range (n+1)).filter fun r=>Nat.ble 2 r && n % r==0 && primeB r
def okP(p x:Nat):Bool:=x != 0 && Nat.blt x p && fl (divsOf (p-1)) fun rs=>rsOK (p-1) rs && primS p 1 [0] (p-1) rs x
def chkP:List (Nat × Nat)->Bool:=fun t=>t.all fun e=>okP e.1 e.2
theorem okP_spec{p x:Nat}(b:p<=256)(h:okP p x=true):genM (mulM p 1 [0]) p≠[]:=by unfold okP at h;rw[fl_eq,primS_eq] at h;simp only[Bool.and_eq_true,bne_iff_ne,ne_eq,Nat.blt_eq] at h;have H:=qaV (p:=p) (m:=1) U0 U0 [0];rw[Nat.pow_one] at H;exact genM_some H U0 h.1.2 (prim_of H h.2.1 b h.2.2)
theorem ok_2_2:chkV 2 2 [3] 0 [(1,0),(1,1),(1,0),(0,2)]=true:=dk
theorem ok_2_3:chkV 2 3 [7] 0 [(1,0),(1,1),(1,0),(0,2),(1,0),(0,2),(1,0),(1,1)]=true:=dk
theorem ok_2_4:chkV 2 4 [3,5] 0 [(1,0),(1,1),(1,0),(0,2),(1,0),(2,3),(1,0),(1,1),(1,0),(0,2),(1,0),(1,1),(1,0),(1,1),(1,0),(0,3)]=true:=dk
theorem ok_2_5:chkV 2 5 [31] 0 [(1,0),(1,1),(1,0),(2,3),(1,0),(0,2),(1,0),(1,1),(1,0),(0,2),(1,0),(1,1),(1,0),(1,1),(1,0),(0,2),(1,0),(2,3),(1,0),(1,1),(1,0),(1,1),(1,0),(0,2),(1,0),(1,1),(1,0),(0,2),(1,0),(0,2),(1,0),(1,1)]=true:=dk
theorem ok_2_6:chkV 2 6 [3,7] 0 [(1,0),(1,1),(1,0),(0,2),(1,0),(3,3),(1,0),(1,1),(1,0),(0,3),(1,0),(1,1),(1,0),(1,1),(1,0),(2,3),(1,0),(3,5),(1,0),(1,1),(1,0),(1,1),(1,0),(0,3),(1,0),(1,1),(1,0),(0,2),(1,0),(2,3),(1,0),(1,1),(1,0),(0,2),(1,0),(1,1),(1,0),(1,1),(1,0),(0,2),(1,0),(1,1),(1,0),(2,3),(1,0),(0,2),(1,0),(1,1),(1,0),(1,1),(1,0),(0,2),(1,0),(0,3),(1,0),(1,1),(1,0),(2,3),(1,0),(1,1),(1,0),(1,1),(1,0),(3,3)]=true:=dk
theorem ok_2_7:chkV 2 7 [127] 0 [(1,0),(1,1),(1,0),(0,2),(1,0),(2,3),(1,0),(1,1),(1,0),(0,2),(1,0),(1,1),(1,0),(1,1),(1,0),(0,2),(1,0),(0,2),(1,0),(1,1),(1,0),(1,1),(1,0),(2,3),(1,0),(1,1),(1,0),(3,5),(1,0),(0,2),(1,0),(1,1),(1,0),(2,3),(1,0),(1,1),(1,0),(1,1),(1,0),(0,2),(1,0),(1,1),(1,0),(0,2),(1,0),(3,3),(1,0),(1,1),(1,0),(1,1),(1,0),(2,3),(1,0),(3,5),(1,0),(1,1),(1,0),(0,2),(1,0),(1,1),(1,0),(1,1),(1,0),(0,2),(1,0),(0,2),(1,0),(1,1),(1,0),(1,1),(1,0),(3,5),(1,0),(1,1),(1,0),(0,2),(1,0),(2,3),(1,0),(1,1),(1,0),(1,1),(1,0),(0,2),(1,0),(0,2),(1,0),(1,1),(1,0),(3,3),(1,0),(1,1),(1,0),(1,1),(1,0),(2,3),(1,0),(1,1),(1,0),(3,3),(1,0),(0,2),(1,0),(1,1),(1,0),(2,3),(1,0),(1,1),(1,0),(1,1),(1,0),(0,2),(1,0),(0,2),(1,0),(1,1),(1,0),(1,1),(1,0),(0,2),(1,0),(1,1),(1,0),(2,3),(1,0),(0,2),(1,0),(1,1)]=true:=dk
theorem ok_2_8:chkV 2 8 [3,5,17] 0 [(1,0),(1,1),(1,0),(2,3),(1,0),(4,3),(1,0),(1,1),(1,0),(3,3),(1,0),(1,1),(1,0),(1,1),(1,0),(3,5),(1,0),(2,3),(1,0),(1,1),(1,0),(1,1),(1,0),(4,9),(1,0),(1,1),(1,0),(0,3),(1,0),(0,2),(1,0),(1,1),(1,0),(3,5),(1,0),(1,1),(1,0),(1,1),(1,0),(2,3),(1,0),(1,1),(1,0),(0,2),(1,0),(0,2),(1,0),(1,1),(1,0),(1,1),(1,0),(3,3),(1,0),(2,3),(1,0),(1,1),(1,0),(0,3),(1,0),(1,1),(1,0),(1,1),(1,0),(0,3),(1,0),(4,9),(1,0),(1,1),(1,0),(1,1),(1,0),(3,3),(1,0),(1,1),(1,0),(2,3),(1,0),(0,2),(1,0),(1,1),(1,0),(1,1),(1,0),(3,5),(1,0),(4,15),(1,0),(1,1),(1,0),(2,3),(1,0),(1,1),(1,0),(1,1),(1,0),(0,2),(1,0),(1,1),(1,0),(0,2),(1,0),(0,2),(1,0),(1,1),(1,0),(0,2),(1,0),(1,1),(1,0),(1,1),(1,0),(2,3),(1,0),(0,2),(1,0),(1,1),(1,0),(1,1),(1,0),(0,3),(1,0),(1,1),(1,0),(0,9),(1,0),(2,3),(1,0),(1,1),(1,0),(2,3),(1,0),(1,1),(1,0),(1,1),(1,0),(0,2),(1,0),(1,1),(1,0),(0,6),(1,0),(0,2),(1,0),(1,1),(1,0),(1,1),(1,0),(2,3),(1,0),(3,3),(1,0),(1,1),(1,0),(3,5),(1,0),(1,1),(1,0),(1,1),(1,0),(0,3),(1,0),(1,1),(1,0),(0,3),(1,0),(2,3),(1,0),(1,1),(1,0),(0,2),(1,0),(1,1),(1,0),(1,1),(1,0),(3,3),(1,0),(0,6),(1,0),(1,1),(1,0),(1,1),(1,0),(2,3),(1,0),(1,1),(1,0),(4,3),(1,0),(0,7),(1,0),(1,1),(1,0),(1,1),(1,0),(0,2),(1,0),(3,5),(1,0),(1,1),(1,0),(2,3),(1,0),(1,1),(1,0),(1,1),(1,0),(0,2),(1,0),(4,3),(1,0),(1,1),(1,0),(1,1),(1,0),(0,7),(1,0),(1,1),(1,0),(2,3),(1,0),(0,6),(1,0),(1,1),(1,0),(3,3),(1,0),(1,1),(1,0),(1,1),(1,0),(0,2),(1,0),(1,1),(1,0),(3,5),(1,0),(2,3),(1,0),(1,1),(1,0),(1,1),(1,0),(0,6),(1,0),(0,2),(1,0),(1,1),(1,0),(0,3),(1,0),(1,1),(1,0),(1,1),(1,0),(2,3)]=true:=dk
theorem ok_3_2:chkV 3 2 [2] 0 [(1,0),(0,4),(1,1),(1,0),(1,2),(0,3),(1,0),(1,1),(0,3)]=true:=dk
theorem ok_3_3:chkV 3 3 [2,13] 0 [(1,0),(1,1),(1,2),(1,0),(1,2),(1,1),(1,0),(0,3),(0,6),(1,0),(1,2),(0,5),(1,0),(1,1),(0,4),(1,0),(0,3),(1,1),(1,0),(0,3),(1,1),(1,0),(0,3),(1,2),(1,0),(1,1),(0,4)]=true:=dk
theorem ok_3_4:chkV 3 4 [2,5] 0 [(1,0),(2,5),(1,1),(1,0),(1,2),(0,3),(1,0),(1,1),(0,3),(1,0),(1,1),(0,12),(1,0),(0,4),(1,1),(1,0),(0,5),(1,2),(1,0),(2,1),(0,4),(1,0),(1,1),(1,2),(1,0),(1,2),(1,1),(1,0),(1,2),(0,3),(1,0),(1,1),(2,1),(1,0),(0,4),(1,1),(1,0),(0,10),(1,1),(1,0),(0,5),(1,2),(1,0),(1,1),(0,3),(1,0),(1,1),(1,2),(1,0),(1,2),(1,1),(1,0),(2,8),(0,3),(1,0),(1,1),(0,3),(1,0),(0,4),(1,1),(1,0),(1,2),(2,1),(1,0),(0,10),(1,2),(1,0),(1,1),(0,3),(1,0),(0,4),(1,1),(1,0),(1,2),(1,1),(1,0),(2,5),(0,3),(1,0),(1,1),(1,2)]=true:=dk
theorem ok_3_5:chkV 3 5 [2,11] 0 [(1,0),(1,1),(1,2),(1,0),(1,2),(1,1),(1,0),(0,3),(0,6),(1,0),(1,2),(2,8),(1,0),(1,1),(0,4),(1,0),(2,1),(1,1),(1,0),(2,5),(1,1),(1,0),(0,3),(1,2),(1,0),(1,1),(2,1),(1,0),(1,2),(1,1),(1,0),(0,3),(0,6),(1,0),(1,1),(1,2),(1,0),(1,1),(0,4),(1,0),(2,8),(1,1),(1,0),(1,2),(0,6),(1,0),(0,3),(1,2),(1,0),(1,1),(2,5),(1,0),(0,3),(1,1),(1,0),(2,8),(2,5),(1,0),(1,1),(1,2),(1,0),(1,2),(1,1),(1,0),(0,3),(1,1),(1,0),(1,2),(0,5),(1,0),(1,1),(0,4),(1,0),(1,1),(0,4),(1,0),(0,3),(1,1),(1,0),(0,4),(1,2),(1,0),(1,2),(0,5),(1,0),(1,1),(0,4),(1,0),(0,3),(1,1),(1,0),(0,3),(1,1),(1,0),(0,3),(1,2),(1,0),(1,1),(0,4),(1,0),(1,1),(1,2),(1,0),(1,2),(1,1),(1,0),(2,1),(2,8),(1,0),(1,1),(2,1),(1,0),(0,3),(1,1),(1,0),(1,2),(2,5),(1,0),(2,5),(1,2),(1,0),(1,1),(2,8),(1,0),(0,3),(1,1),(1,0),(1,2),(1,1),(1,0),(0,3),(0,6),(1,0),(1,1),(1,2),(1,0),(0,3),(1,1),(1,0),(1,2),(2,1),(1,0),(1,1),(0,6),(1,0),(1,1),(0,4),(1,0),(0,3),(1,1),(1,0),(2,8),(1,2),(1,0),(0,3),(0,6),(1,0),(1,1),(1,2),(1,0),(1,2),(1,1),(1,0),(0,3),(1,1),(1,0),(0,3),(1,2),(1,0),(1,1),(0,5),(1,0),(1,1),(1,2),(1,0),(1,2),(1,1),(1,0),(2,5),(2,1),(1,0),(1,2),(0,5),(1,0),(1,1),(0,4),(1,0),(0,3),(1,1),(1,0),(2,1),(1,2),(1,0),(1,1),(0,4),(1,0),(2,8),(1,1),(1,0),(1,2),(1,1),(1,0),(0,3),(0,6),(1,0),(1,1),(1,2),(1,0),(1,1),(2,8),(1,0),(2,5),(1,1),(1,0),(1,2),(0,5),(1,0),(1,1),(0,4),(1,0),(2,1),(1,1),(1,0),(0,3),(1,2),(1,0),(0,3),(0,6),(1,0),(1,1),(1,2),(1,0),(1,2),(1,1),(1,0),(0,7),(1,1),(1,0),(1,2),(0,5),(1,0),(1,1),(2,5)]=true:=dk
theorem ok_5_2:chkV 5 2 [2,3] 0 [(1,0),(1,2),(0,6),(0,7),(1,1),(1,0),(0,7),(0,5),(1,2),(1,3),(1,0),(1,1),(1,3),(0,5),(0,8),(1,0),(1,4),(1,1),(0,5),(0,6),(1,0),(0,6),(0,5),(1,1),(1,2)]=true:=dk
theorem ok_5_3:chkV 5 3 [2,31] 0 [(1,0),(1,1),(1,3),(1,2),(1,4),(1,0),(0,9),(1,1),(1,4),(0,6),(1,0),(0,6),(1,2),(1,1),(0,7),(1,0),(1,3),(0,5),(0,5),(1,1),(1,0),(1,2),(0,5),(0,5),(1,3),(1,0),(0,7),(0,5),(1,3),(1,2),(1,0),(1,1),(1,4),(0,5),(0,6),(1,0),(1,4),(1,1),(1,2),(1,3),(1,0),(0,6),(1,3),(1,1),(0,8),(1,0),(0,6),(1,2),(0,5),(1,1),(1,0),(0,6),(1,4),(0,5),(1,1),(1,0),(1,4),(1,2),(0,5),(0,7),(1,0),(1,1),(0,5),(0,5),(1,2),(1,0),(1,2),(1,1),(1,3),(1,4),(1,0),(1,3),(0,5),(1,1),(0,8),(1,0),(1,2),(0,5),(1,1),(0,7),(1,0),(0,6),(0,5),(1,2),(1,1),(1,0),(1,3),(0,5),(0,5),(1,4),(1,0),(1,1),(1,2),(1,4),(1,3),(1,0),(0,7),(1,1),(0,5),(1,2),(1,0),(1,3),(1,1),(0,5),(0,6),(1,0),(0,6),(0,5),(1,1),(1,2),(1,0),(1,2),(1,3),(1,4),(1,1),(1,0),(0,7),(1,4),(1,2),(0,9),(1,0),(1,1),(0,5),(1,3),(0,6)]=true:=dk
theorem ok_7_2:chkV 7 2 [2,3] 0 [(1,0),(0,9),(0,8),(1,2),(0,8),(1,3),(1,1),(1,0),(1,3),(1,4),(0,7),(0,10),(1,2),(0,10),(1,0),(1,1),(0,10),(0,7),(1,3),(0,7),(1,4),(1,0),(0,11),(1,1),(1,4),(1,5),(0,7),(0,11),(1,0),(0,8),(1,5),(1,1),(1,2),(0,7),(0,8),(1,0),(1,6),(0,8),(0,7),(1,1),(0,7),(1,2),(1,0),(1,2),(1,3),(0,7),(0,9),(1,1),(0,9)]=true:=dk
theorem ok_11_2:chkV 11 2 [2,3,5] 0 [(1,0),(0,15),(1,3),(0,13),(0,14),(0,12),(1,4),(1,2),(1,5),(0,13),(1,1),(1,0),(0,15),(1,5),(1,6),(0,13),(1,3),(0,13),(0,11),(0,11),(1,2),(1,4),(1,0),(1,1),(0,16),(1,4),(0,14),(0,15),(0,11),(1,5),(1,3),(1,6),(0,14),(1,0),(1,5),(1,1),(0,16),(1,6),(1,7),(0,11),(1,4),(0,11),(0,12),(0,12),(1,0),(1,7),(0,11),(1,1),(1,2),(0,17),(1,5),(0,11),(0,16),(0,12),(1,6),(1,0),(0,12),(0,11),(0,13),(1,1),(1,6),(1,2),(0,17),(1,7),(1,8),(0,12),(1,0),(0,12),(0,11),(0,13),(1,7),(1,1),(1,8),(0,12),(1,2),(1,3),(0,18),(1,0),(1,3),(0,11),(1,8),(1,9),(0,13),(1,1),(0,11),(0,12),(0,14),(1,2),(1,0),(1,2),(1,9),(0,13),(1,3),(1,4),(0,11),(1,1),(0,11),(0,12),(0,14),(1,0),(1,10),(0,14),(1,2),(0,12),(0,13),(0,11),(1,3),(1,1),(1,4),(0,12),(1,0),(0,14),(1,4),(1,5),(0,12),(1,2),(0,12),(0,11),(0,11),(1,1),(1,3)]=true:=dk
theorem ok_13_2:chkV 13 2 [2,3,7] 0 [(1,0),(1,5),(0,15),(1,6),(1,3),(0,14),(0,14),(0,15),(0,17),(1,2),(1,4),(0,15),(1,1),(1,0),(1,4),(0,13),(0,17),(0,15),(0,15),(1,5),(1,3),(0,17),(1,6),(1,7),(1,2),(0,17),(1,0),(1,1),(1,6),(0,16),(1,7),(1,4),(0,13),(0,13),(0,16),(0,18),(1,3),(1,5),(0,16),(1,0),(0,18),(1,1),(1,5),(0,14),(0,18),(0,13),(0,13),(1,6),(1,4),(0,18),(1,7),(1,8),(1,0),(1,6),(0,13),(1,1),(1,2),(1,7),(0,13),(1,8),(1,5),(0,14),(0,14),(0,13),(0,19),(1,0),(0,19),(1,8),(1,9),(1,1),(0,19),(1,2),(1,6),(0,15),(0,19),(0,14),(0,13),(1,7),(1,0),(0,15),(0,13),(0,14),(0,20),(1,1),(1,7),(0,13),(1,2),(1,3),(1,8),(0,13),(1,9),(1,0),(0,16),(0,13),(0,15),(0,14),(1,8),(1,1),(0,13),(1,9),(1,10),(1,2),(0,13),(1,3),(1,0),(0,14),(1,3),(1,4),(1,9),(0,14),(1,10),(1,1),(0,16),(0,14),(0,15),(0,13),(1,2),(1,0),(1,2),(0,13),(1,10),(1,11),(1,3),(0,13),(1,4),(1,1),(0,17),(0,14),(0,13),(0,15),(1,0),(0,15),(1,11),(1,2),(0,17),(0,15),(0,13),(0,13),(1,3),(1,1),(0,15),(1,4),(1,5),(1,0),(1,12),(1,4),(0,14),(1,5),(1,2),(0,13),(0,13),(0,14),(0,16),(1,1),(1,3),(0,14),(1,0),(1,3),(0,13),(0,16),(0,14),(0,14),(1,4),(1,2),(0,16),(1,5),(1,6),(1,1),(0,16)]=true:=dk
theorem ok_primes:chkP [(2,1),(3,2),(5,2),(7,3),(11,2),(13,2),(17,3),(19,2),(23,5),(29,2),(31,3),(37,2),(41,6),(43,3),(47,5),(53,2),(59,2),(61,2),(67,2),(71,7),(73,5),(79,3),(83,2),(89,3),(97,5),(101,2),(103,5),(107,2),(109,6),(113,3),(127,3),(131,2),(137,3),(139,2),(149,2),(151,6),(157,5),(163,2),(167,5),(173,2),(179,2),(181,2),(191,19),(193,5),(197,2),(199,3),(211,2),(223,3),(227,2),(229,6),(233,3),(239,7),(241,7),(251,6)]=true:=dk
theorem primes_are:((List.range 257).all fun p=>!(Nat.ble 2 p && primeB p) || ([2,3,5,7,11,13,17,19,23,29,31,37,41,43,47,53,59,61,67,71,73,79,83,89,97,101,103,107,109,113,127,131,137,139,149,151,157,163,167,173,179,181,191,193,197,199,211,223,227,229,233,239,241,251]:LN).elem p)=true:=dk
def addD(p:Nat):Nat->Nat->Nat->Nat
 |0,_,_=>0
 |k+1,x,y=>(x % p+y % p) % p+p*addD p k (x / p) (y / p)
def negD(p:Nat):Nat->Nat->Nat
 |0,_=>0
 |k+1,x=>(p-x % p) % p+p*negD p k (x / p)
theorem addD_zero(p:Nat):∀k,addD p k 0 0=0
 |0=>rfl
 |k+1=>by simp[addD,addD_zero p k]
theorem negD_zero(p:Nat):∀k,negD p k 0=0
 |0=>rfl
 |k+1=>by simp[negD,negD_zero p k]
theorem addD_val(p:Nat):∀k x y,addD p k x y=val p (List.zipWith (fun a b=>(a+b) % p) (digs p k x) (digs p k y))
 |0,_,_=>rfl
 |k+1,x,y=>by simp[addD,digs,val,addD_val p k]
theorem negD_val(p:Nat):∀k x,negD p k x=val p ((digs p k x).map fun a=>(p-a) % p)
 |0,_=>rfl
 |k+1,x=>by simp[negD,digs,val,negD_val p k]
theorem lt_pow_succ{p k d r:Nat}(hd:d<p)(b:r<p^k):d+p*r<p^(k+1):=by rw[Nat.pow_succ,Nat.mul_comm (p^k) p];have:p*(r+1)<=p*p^k:=Nat.mul_le_mul_left _ b;rw[Nat.mul_add,Nat.mul_one] at this;omega
theorem qdR{p:Nat}(b:0<p):∀k x y,addD p k x y<p^k
 |0,_,_=>by simp[addD]
 |k+1,x,y=>lt_pow_succ (Nat.mod_lt _ b) (qdR b k _ _)
theorem qdP{p:Nat}(b:0<p):∀k x,negD p k x<p^k
 |0,_=>by simp[negD]
 |k+1,x=>lt_pow_succ (Nat.mod_lt _ b) (qdP b k _)
theorem xor_mod2(x y:Nat):(x ^^^ y) % 2=(x+y) % 2:=by have h:=@Nat.xor_mod_two_pow x y 1;simp only[Nat.pow_one] at h;rw[h];rcases Nat.mod_two_eq_zero_or_one x with hx|hx<;>rcases Nat.mod_two_eq_zero_or_one y with hy|hy<;>rw[hx,hy]<;>simp<;>omega
theorem xor_addD:∀ k x y,x<2 ^ k->y<2 ^ k->x ^^^ y=addD 2 k x y
 |0,x,y,hx,hy=>by
   simp at hx hy
   subst hx hy
   rfl
 |k + 1,x,y,hx,hy=>by
   have ih:=xor_addD k (x / 2) (y / 2) (by rw[Nat.pow_succ] at hx;omega) (by rw[Nat.pow_succ] at hy;omega)
   have b:(x ^^^ y) / 2=x / 2 ^^^ y / 2:=Nat.xor_div_two
   have c:(x ^^^ y) % 2=(x+y) % 2:=xor_mod2 x y
   simp only[addD]
   omega
structure Ops where
 add:Nat->Nat->Nat
 mul:Nat->Nat->Nat
 neg:Nat->Nat
 inv:Nat->Nat
def at2(rows:LL)(i c:Nat):Nat:=(rows.getD i []).getD c 0
def addRow(O:Ops)(v:LN)(a:Nat)(u:LN):LN:=List.zipWith (fun x y=>if y=0 then x else O.add x (O.mul a y)) v u
def scaleRow(O:Ops)(a:Nat)(v:LN):LN:=v.map (O.mul a)
def findRow(rows:LL)(c:Nat):Nat->Nat->Nat
 |0,k=>k
 |g+1,k=>if at2 rows k c=0 then findRow rows c g (k+1) else k
def swapRows(rows:LL)(i j:Nat):LL:=(rows.set i (rows.getD j [])).set j (rows.getD i [])
def normRow(O:Ops)(rows:LL)(i c:Nat):LL:=if at2 rows i c=1 then rows else rows.set i (scaleRow O (O.inv (at2 rows i c)) (rows.getD i []))
def clearGo(O:Ops)(c t:Nat)(rows:LL):Nat->LL
 |0=>rows
 |i+1=>if i≠t/\at2 (clearGo O c t rows i) i c≠0 then(clearGo O c t rows i).set i (addRow O ((clearGo O c t rows i).getD i []) (O.neg (at2 (clearGo O c t rows i) i c)) ((clearGo O c t rows i).getD t [])) else clearGo O c t rows i
structure ElS where
 rows:LL
 piv:LN
def elStep(O:Ops)(c:Nat)(s:ElS):ElS:=
 if s.piv.length<s.rows.length then
  if findRow s.rows c (s.rows.length-s.piv.length) s.piv.length=s.rows.length then s
  else⟨clearGo O c s.piv.length (normRow O (swapRows s.rows s.piv.length (findRow s.rows c (s.rows.length-s.piv.length) s.piv.length)) s.piv.length c) s.rows.length,s.piv++[c]⟩
 else s
def elGo(O:Ops)(rows:LL):Nat->ElS
 |0=>⟨rows,[]⟩
 |c+1=>elStep O c (elGo O rows c)
def canonM(O:Ops)(rows:LL)(cols:Nat):LL:=(elGo O rows cols).rows.take (elGo O rows cols).piv.length
def Grid(q n cols:Nat)(rows:LL):Prop:=rows.length=n/\∀r∈rows,r.length=cols/\∀x∈r,x<q
structure OpsEq (q:Nat) (O O':Ops):Prop where
 add:∀x y,x<q->y<q->O.add x y=O'.add x y/\O.add x y<q
 mul:∀x y,x<q->y<q->O.mul x y=O'.mul x y/\O.mul x y<q
 neg:∀x,x<q->O.neg x=O'.neg x/\O.neg x<q
 inv:∀x,x<q->x≠0->O.inv x=O'.inv x/\O.inv x<q
section
variable {q n cols:Nat} {O O':Ops}
theorem Grid.row{rows:LL}(h:Grid q n cols rows){i:Nat}(b:i<n):(rows.getD i []).length=cols/\∀x∈rows.getD i [],x<q:=by
 have:rows.getD i []=rows[i]'(by rw[h.1];exact b):=by simp[List.getD,h.1,b]
 rw[this];exact h.2 _ (List.getElem_mem _)
theorem Grid.at_{rows:LL}(h:Grid q n cols rows){i c:Nat}(f:i<n)(g:c<cols):at2 rows i c<q:=by
 obtain⟨d,b⟩:=h.row f;unfold at2;have:(rows.getD i []).getD c 0=(rows.getD i [])[c]'U0:=by simp[List.getD,show c<(rows[i]?.getD []).length from by simpa[List.getD] using(by omega:c<(rows.getD i []).length)]
 rw[this];exact b _ (List.getElem_mem _)
theorem Grid.set{rows:LL}(h:Grid q n cols rows)(i:Nat){r:LN}(b:r.length=cols/\∀x∈r,x<q):Grid q n cols (rows.set i r):=by
 refine⟨by simp[h.1],fun s hs=>?_⟩;rcases List.mem_or_eq_of_mem_set hs with h'|rfl
 . exact h.2 _ h'
 . exact b
theorem qdB(E:OpsEq q O O'){v u:LN}{a:Nat}(r:a<q)(p:∀ x∈v,x<q)(o:∀ x∈u,x<q):addRow O v a u=addRow O' v a u/\∀ x∈addRow O v a u,x<q:=by
 induction v generalizing u with
 |nil=>simp[addRow]
 | cons x v ih =>
  cases u with
  |nil=>simp[addRow]
  | cons y u =>
   have f:=p x (List.mem_cons_self ..);have h:=o y (List.mem_cons_self ..);obtain⟨d,g⟩:=ih (fun z b=>p z (List.mem_cons_of_mem _ b)) (fun z b=>o z (List.mem_cons_of_mem _ b));obtain⟨i,j⟩:=E.mul a y r h;obtain⟨k,l⟩:=E.add x (O.mul a y) f j;unfold addRow at d g ⊢;simp only[List.zipWith_cons_cons,d];refine⟨?_,?_⟩
   . by_cases c : y = 0
     . simp[c]
     . simp only[if_neg c];rw[k,i]
   . intro z b;rcases List.mem_cons.1 b with rfl|b
     . by_cases c : y = 0
       . simp only[if_pos c];exact f
       . simp only[if_neg c];exact l
     . rw[<- d] at b;exact g z b
theorem qeG(E:OpsEq q O O'){v:LN}{a:Nat}(c:a<q)(d:∀x∈v,x<q):scaleRow O a v=scaleRow O' a v/\∀x∈scaleRow O a v,x<q:=by unfold scaleRow;refine⟨List.map_congr_left fun x b=>(E.mul a x c (d x b)).1,fun z hz=>?_⟩;obtain⟨x,b,rfl⟩:=List.mem_map.1 hz;exact(E.mul a x c (d x b)).2
theorem qdF(rows:LL)(c:Nat):∀ g k,k<=findRow rows c g k/\findRow rows c g k<=k+g
 |0,k=>by simp[findRow]
 |g + 1,k=>by
   unfold findRow
   split
   . have:=qdF rows c g (k+1);omega
   . omega
theorem qcF(rows:LL)(c:Nat):∀ g k,findRow rows c g k<k+g->at2 rows (findRow rows c g k) c≠0
 |0,k=>by simp[findRow]
 |g + 1,k=>by
   unfold findRow
   split
   . intro h;exact qcF rows c g (k+1) U0
   . intro _;assumption
theorem qdC{rows:LL}(h:Grid q n cols rows){i j:Nat}(b:i<n)(c:j<n):Grid q n cols (swapRows rows i j):=(h.set i (h.row c)).set j (h.row b)
theorem qfE{rows:LL}{i j:Nat}(b:i<rows.length)(c:j<rows.length):(swapRows rows i j).getD i []=rows.getD j []:=by
 unfold swapRows;by_cases h:i=j
 . subst h;simp[List.getD,b]
 . simp only[List.getD];rw[List.getElem?_set_ne U0,List.getElem?_set_self (by simpa using b)];rfl
theorem qfL(E:OpsEq q O O'){rows:LL}(h:Grid q n cols rows){i c:Nat}(l:i<n)(p:c<cols)(o:at2 rows i c≠0):normRow O rows i c=normRow O' rows i c/\Grid q n cols (normRow O rows i c):=by
 obtain⟨j,k⟩:=E.inv _ (h.at_ l p) o;obtain⟨d,f⟩:=h.row l;obtain⟨b,g⟩:=qeG E k f;unfold normRow;rw[<- j,b];refine⟨rfl,?_⟩;split
 . exact h
 . rw[<- b];exact h.set i ⟨by unfold scaleRow;rw[List.length_map];exact d,g⟩
theorem qdJ(E:OpsEq q O O'){rows:LL}(h:Grid q n cols rows){c t:Nat}(p:c<cols)(r:t<n):∀ i,i<=n->clearGo O c t rows i=clearGo O' c t rows i/\Grid q n cols (clearGo O c t rows i)
 |0,_=>⟨rfl,h⟩
 | i + 1,hi => by
   obtain⟨e,g⟩:=qdJ E h p r i U0
   obtain⟨m,o⟩:=E.neg _ (g.at_ (i:=i) U0 p)
   obtain⟨d,f⟩:=g.row (i:=i) U0
   obtain⟨k,l⟩:=g.row r
   obtain⟨b,j⟩:=qdB E o f l
   unfold clearGo
   rw[<- e,<- m,b]
   refine⟨rfl,?_⟩
   split
   . rw[<- b]
     exact g.set i ⟨by unfold addRow;rw[List.length_zipWith,d,k,Nat.min_self],j⟩
   . exact g
theorem elStep_eq(E:OpsEq q O O'){c:Nat}(v:c<cols){s:ElS}(h:Grid q n cols s.rows):elStep O c s=elStep O' c s/\Grid q n cols (elStep O c s).rows:=by
 unfold elStep;by_cases f:s.piv.length<s.rows.length
 . simp only[if_pos f];have r:=qdF s.rows c (s.rows.length-s.piv.length) s.piv.length;by_cases g:findRow s.rows c (s.rows.length-s.piv.length) s.piv.length=s.rows.length
   . simp only[if_pos g];exact⟨trivial,h⟩
   . simp only[if_neg g];have b:=qcF s.rows c (s.rows.length-s.piv.length) s.piv.length U0;generalize findRow s.rows c (s.rows.length-s.piv.length) s.piv.length=k at *;have u:k<s.rows.length:=U0;have d:=h.1;have m:=qdC h (i:=s.piv.length) (j:=k) U0 U0;(have l:at2 (swapRows s.rows s.piv.length k) s.piv.length c≠0:=by unfold at2 at b ⊢;rw[qfE U0 U0];exact b);obtain⟨o,p⟩:=qfL E m (i:=s.piv.length) U0 v l;obtain⟨c1,c2⟩:=qdJ E p (t:=s.piv.length) v U0 n zn;rw[d];exact⟨by rw[c1,o],c2⟩
 . simp only[if_neg f];exact⟨trivial,h⟩
theorem qdT(E:OpsEq q O O'){rows:LL}(h:Grid q n cols rows):∀ c,c<=cols->elGo O rows c=elGo O' rows c/\Grid q n cols (elGo O rows c).rows
 |0,_=>⟨rfl,h⟩
 |c + 1,hc=>by
   obtain⟨e,g⟩:=qdT E h c U0
   have:=elStep_eq E (c:=c) U0 g
   unfold elGo
   rw[<- e]
   exact this
theorem canon_eq(E:OpsEq q O O'){rows:LL}(h:Grid q n cols rows):canonM O rows cols=canonM O' rows cols:=by unfold canonM;rw[(qdT E h cols zn).1]
end
end Go.Proofs.YtocbdafcolbfeaaGreat.Pln
namespace Go.Proofs.YtocbdafcolbfeaaGreat
section
variable {P:Program} {ops:Array Oper} {md:Region.Mode} {S:Wo->Prop}
def ResS(P:Program)(S:Wo->Prop)(v:Value):Result Next->Prop
 |.ok (.value u) w'=>u=v/\S w'
 |.ok .skip w'=>v=undef/\S w'
 |.ok (.enter f args) w'=>Calls P f args w' (fun e w''=>e=.returned v/\S w'')
 |_=>False
def YieldsS(P:Program)(ops:Array Oper)(S:Wo->Prop)(o:Oper)(v:Value)(a:Act):Prop:=
 (Region.wanted o (yielded ops a.tmps)=true/\∀w,S w->ResS P S v ((execOp a.eval o).run P w))\/
 (Region.wanted o (yielded ops a.tmps)=false/\v=undef)
theorem YieldsS.of_same{o:Oper}{v:Value}{a b:Act}(f:YieldsS P ops S o v a)(c:execOp b.eval o=execOp a.eval o)(d:Region.wanted o (yielded ops b.tmps)=Region.wanted o (yielded ops a.tmps)):YieldsS P ops S o v b:=by unfold YieldsS at *;rw[c,d];exact f
def wpKeep(P:Program)(ops:Array Oper)(S:Wo->Prop)(Q:Act->Prop):List Oper->Act->Prop
 |[],a=>Q a
 |o :: rest,a=>∃v,YieldsS P ops S o v a/\wpKeep P ops S Q rest (a.put o.dst v)
def kOp(P:Program)(ops:Array Oper)(S:Wo->Prop)(i:Nat)(K:Act->Prop)(a:Act):Prop:=
 match ops[i]? with
 |none=>K a
 |some o=>∃v,YieldsS P ops S o v a/\K (a.put o.dst v)
theorem kOp_mono{i:Nat}{a:Act}{K f:Act->Prop}(h:∀a,K a->f a)(d:kOp P ops S i K a):kOp P ops S i f a:=by
 unfold kOp at *;split
 . rename_i ho;simp only[ho] at d;exact h _ d
 . rename_i o ho;simp only[ho] at d;obtain⟨v,b,c⟩:=d;exact⟨v,b,h _ c⟩
theorem wpOp_of_kOp{i:Nat}{a:Act}{w:Wo}{K:Act->Prop}{p:Act->Wo->Prop}{Q':Exit->Act->Wo->Prop}(h:∀ a w,S w->K a->p a w)(m:S w)(l:kOp P ops S i K a):wpOp P ops Q' i p a w:=by
 unfold kOp at l;unfold wpOp;split
 . rename_i ho;simp only[ho] at l;exact h _ _ m l
 . rename_i o ho;simp only [ho] at l;obtain ⟨v,k,d⟩:=l;rcases k with ⟨g,j⟩|⟨g,rfl⟩
   . simp only [g,if_true];refine .inl ?_;have b:=j w m;unfold Oper.wp;generalize (execOp a.eval o).run P w=r at *;cases r with
     |ok n w'=>
      cases n<;>simp only[ResS] at b<;>simp only[Oper.upon];case value u=>obtain⟨rfl,c⟩:=b;exact h _ _ c d
      case skip=>obtain⟨rfl,c⟩:=b;exact h _ _ c d
      case enter f args=>exact b.mono fun e w'' ⟨he,c⟩=>by subst he;exact h _ _ c d
     |halt x w'=>simp only[ResS] at b
   . simp only[g];exact h _ _ m d
theorem kOp_put{j:Nat}{k l:Oper}{v:Value}(p:ops[j]?=some l)(m:k.apart ops l=true)(n:∀cs b,k.op≠.select cs b)(o:∀cs b,l.op≠.select cs b){K:Act->Prop}{a:Act}(q:YieldsS P ops S k v a)(h:kOp P ops S j K (a.put k.dst v)):
 kOp P ops S j (fun a'=>YieldsS P ops S k v a'/\K (a'.put k.dst v)) a:=by obtain⟨c,f,d⟩:=Oper.apart_spec m;unfold kOp at *;simp only[p] at *;obtain⟨u,i,g⟩:=h;refine⟨u,i.of_same (execOp_put l o a k.dst v c).symm (wanted_put l a k.dst v c).symm,q.of_same (execOp_put k n a l.dst u d) (wanted_put k a l.dst u d),?_⟩;rw[<- Act.put_comm a v u f];exact g
def wpAnyK(P:Program)(md:Region.Mode)(ops:Array Oper)(S:Wo->Prop)(Q:Act->Prop):Nat->Array Bool->Act->Prop
 |0,listed,a=>Region.ready md ops listed=[]/\Q a
 |fuel + 1,listed,a=>
   (Region.ready md ops listed=[]->Q a)/\
   ∀i∈Region.ready md ops listed,kOp P ops S i (wpAnyK P md ops S Q fuel (listed.setIfInBounds i true)) a
theorem wpAny_of_keep{Q:Act->Prop}{Q':Exit->Act->Wo->Prop}(b:∀a w,S w->Q a->Q' .normal a w):∀(fuel:Nat)(listed:Array Bool)(a:Act)(w:Wo),S w->
 wpAnyK P md ops S Q fuel listed a->wpAny P md ops Q' fuel listed a w
 |0,_,_,_,hS,h=>⟨h.1,b _ _ hS h.2⟩
 |fuel+1,_,_,_,hS,h=>⟨fun h0=>b _ _ hS (h.1 h0),fun i hi=>wpOp_of_kOp (fun a' w' hs=>wpAny_of_keep b fuel _ a' w' hs) hS (h.2 i hi)⟩
theorem wpAnyK_first{Q:Act->Prop}{i:Nat}{y:Oper}{v:Value}(z:ops[i]?=some y)(x:∀ (j:Nat)(o:Oper) cs b,ops[j]?=some o->o.op≠.select cs b):
 ∀(fuel:Nat)(listed:Array Bool)(a:Act),
  (∀j oj,ops[j]?=some oj->j≠i->listed.getD j true=false->(∀e∈oj.after,Region.binds md e=true->e.on≠i)->y.apart ops oj=true)->
  i∈Region.ready md ops listed->YieldsS P ops S y v a->
  wpAnyK P md ops S Q fuel (listed.setIfInBounds i true) (a.put y.dst v)->wpAnyK P md ops S Q (fuel+1) listed a:=by
 intro fuel;induction fuel with
 |zero=>
  intro listed a _ n s H;refine⟨fun h=>(by rw[h] at n;cases n),fun j hj=>?_⟩;by_cases c:j=i
  . subst c;unfold kOp;simp only[z];exact⟨v,s,H⟩
  . have:=ready_mono hj c;rw[H.1] at this;cases this
 | succ fuel ih =>
  intro listed a d n s H;refine⟨fun h=>(by rw[h] at n;cases n),fun j hj=>?_⟩;by_cases c:j=i
  . subst c;unfold kOp;simp only[z];exact⟨v,s,H⟩
  . have l := H.2 j (ready_mono hj c);obtain ⟨g,oj,m,p⟩:=mem_ready.1 hj;have r:∀ e∈oj.after,Region.binds md e=true->e.on≠i:=fun e he hb heq=>by
     have l:=p e he hb;have t:=(mem_ready.1 n).1;rw[heq] at l;rcases Nat.lt_or_ge i listed.size with h'|h'
     . simp[h'] at t l;rw[t] at l;cases l
     . simp[Array.getElem?_eq_none h'] at l
    have u:=kOp_put m (d j oj m c g r) (fun cs b=>x i y cs b z) (fun cs b=>x j oj cs b m) s l
    have f:∀k ok,ops[k]?=some ok->k≠i->(listed.setIfInBounds j true).getD k true=false->
     (∀e∈ok.after,Region.binds md e=true->e.on≠i)->y.apart ops ok=true:=fun k ok hk hki hun hno=>by
     refine d k ok hk hki ?_ hno
     by_cases q:j=k
     . subst q;exact g
     . rw[getD_set_ne true q] at hun;exact hun
    refine kOp_mono (fun a' h3=>ih (listed.setIfInBounds j true) a' f (ready_mono n (Ne.symm c)) h3.1 ?_) u;rw[Array.setIfInBounds_comm _ _ c];exact h3.2
theorem wpAnyK_lex{Q:Act->Prop}(i:Region.noSelect ops=true):∀ (l:List Oper)(k:Nat)(listed:Array Bool)(a:Act),(∀ j,l[j]?=ops[k+j]?) ->
 Region.lexFrom md ops l.length k listed=true->wpKeep P ops S Q l a->wpAnyK P md ops S Q l.length listed a
 |[],_,_,_,_,hB,h=>⟨by simpa[Region.lexFrom] using hB,h⟩
 | o :: l,k,listed,a,hl,hB,h => by
   have h0:ops[k]?=some o:=by simpa using(hl 0).symm
   simp only[List.length_cons,Region.lexFrom,Bool.and_eq_true] at hB
   obtain⟨⟨f,d⟩,b⟩:=hB
   obtain⟨v,g,c⟩:=h
   exact wpAnyK_first h0 (Region.noSelect_spec i) l.length listed a (Region.free_spec h0 d) (by simpa using f) g
    (wpAnyK_lex i l (k+1) _ _ (fun j=>by have:=hl (j+1);simpa[Nat.add_assoc,Nat.add_comm 1 j] using this) b c)
theorem qaD{i:Nat}{Q:Exit->Act->Wo->Prop}{a:Act}{w:Wo}{l:List Oper}(S:Wo->Prop)(g:P.follows .mixedOrders=true)(d:Region.lexB .any l.toArray=true)(f:S w.drew)(h:wpKeep P l.toArray S (fun a'=>∀w',S w'->Q .normal a' w') l a):(Code.region i l.toArray true).wp P Q a w:=by simp only[Region.lexB,Bool.and_eq_true] at d;refine wp_region_any g ?_;have b:=wpAnyK_lex (md:=.any) (S:=S) d.1 l 0 (Array.replicate l.toArray.size false) a U2 (by simpa using d.2) h;have c:=wpAny_of_keep (Q':=Q) (fun a w hs hq=>hq w hs) _ _ a { w with drawn:=w.drawn+1 } f b;simpa using c
def wpAnyKL(P:Program)(md:Region.Mode)(ops:Array Oper)(S:Wo->Prop)(n:Nat)(L:Array Bool->Act->Prop):Nat->Array Bool->Act->Prop
 |0,listed,a=>L listed a
 |f + 1,listed,a=>
   Region.ready md ops listed≠[]/\∀i∈Region.ready md ops listed,i<n/\kOp P ops S i (wpAnyKL P md ops S n L f (listed.setIfInBounds i true)) a
theorem qeD{n g:Nat}{L:Array Bool->Act->Prop}{Q':Exit->Act->Wo->Prop}(b:∀ listed a w,S w->L listed a->wpAny P md ops Q' g listed a w):
 ∀(f:Nat)(listed:Array Bool)(a:Act)(w:Wo),S w->wpAnyKL P md ops S n L f listed a->wpAny P md ops Q' (f+g) listed a w
 |0,listed,a,w,hS,h=>by rw[Nat.zero_add];exact b _ _ _ hS h
 |f + 1,listed,a,w,hS,h=>by
   rw[show f+1+g=(f+g)+1 by omega]
   exact⟨fun h0=>absurd h0 h.1,fun i hi=>wpOp_of_kOp (fun a' w' hs h'=>qeD b f _ a' w' hs h') hS (h.2 i hi).2⟩
theorem wpAnyKL_first{n i:Nat}{C:Oper}{v:Value}{L:Array Bool->Act->Prop}(E:ops[i]?=some C)(A:∀ (j:Nat)(o:Oper) cs b,ops[j]?=some o->o.op≠.select cs b)(K:Region.sinkB md ops n=true)(I:Region.chainB md ops n=true)(J:n<ops.size)(D:i<n)(B:∀ listed a,L listed a->∀ j∈Region.ready md ops listed,n<=j):
 ∀(f:Nat)(listed:Array Bool)(a:Act),HeadInv md ops n listed->
  (∀j oj,ops[j]?=some oj->j≠i->listed.getD j true=false->(∀e∈oj.after,Region.binds md e=true->e.on≠i)->C.apart ops oj=true)->
  i∈Region.ready md ops listed->YieldsS P ops S C v a->
  wpAnyKL P md ops S n L f (listed.setIfInBounds i true) (a.put C.dst v)->wpAnyKL P md ops S n L (f+1) listed a:=by
 intro f;induction f with
 |zero=>
  intro listed a inv _ q y H;have d:=(mem_ready.1 q).1;refine⟨fun h=>(by rw[h] at q;cases q),fun j hj=>?_⟩;have m:j<n:=by
   rcases Nat.lt_or_ge j n with h|h
   . exact h
   . exact absurd hj (tail_waits K I J inv _ i rfl D d j h)
  refine⟨m,?_⟩;by_cases c:j=i
  . subst c;unfold kOp;simp only[E];exact⟨v,y,H⟩
  . have:=B _ _ H j (ready_mono hj c);omega
 | succ f ih =>
  intro listed a inv g q y H;have d:=(mem_ready.1 q).1;refine⟨fun h=>(by rw[h] at q;cases q),fun j hj=>?_⟩;have m:j<n:=by
   rcases Nat.lt_or_ge j n with h|h
   . exact h
   . exact absurd hj (tail_waits K I J inv _ i rfl D d j h)
  refine⟨m,?_⟩;by_cases c:j=i
  . subst c;unfold kOp;simp only[E];exact⟨v,y,H⟩
  . have x := (H.2 j (ready_mono hj c)).2;obtain ⟨p,oj,r,s⟩:=mem_ready.1 hj;(have u:∀ e∈oj.after,Region.binds md e=true->e.on≠i:=fun e he hb heq=>by have x:=s e he hb;rw [heq,getD_both d] at x;cases x);have z:=kOp_put r (g j oj r c p u) (fun cs b=>A i C cs b E) (fun cs b=>A j oj cs b r) y x
    have l:∀k ok,ops[k]?=some ok->k≠i->(listed.setIfInBounds j true).getD k true=false->
     (∀e∈ok.after,Region.binds md e=true->e.on≠i)->C.apart ops ok=true:=fun k ok hk hki d hno=>by
     refine g k ok hk hki ?_ hno
     by_cases t:j=k
     . subst t;exact p
     . rw[getD_set_ne true t] at d;exact d
    refine kOp_mono (fun a' h3=>ih (listed.setIfInBounds j true) a' (inv.set hj m) l (ready_mono q (Ne.symm c)) h3.1 ?_) z;rw[Array.setIfInBounds_comm _ _ c];exact h3.2
theorem wpAnyKL_lex{n g:Nat}{s:Act->Prop}(r:Region.noSelect ops=true)(x:Region.sinkB md ops n=true)(t:Region.chainB md ops n=true)(u:n<ops.size):
 ∀(l:List Oper)(k:Nat)(listed:Array Bool)(a:Act),(∀j,j<l.length->l[j]?=ops[k+j]?)->k+l.length=n->HeadInv md ops n listed->
 Region.lexHead md ops g l.length k listed=true->wpKeep P ops S s l a->
 wpAnyKL P md ops S n (fun listed' a'=>Region.seqB md ops g n listed'=true/\s a') l.length listed a
 |[],k,listed,a,_,hk,_,hB,h=>by
   have:k=n:=by simpa using hk
   subst this
   exact⟨by simpa[Region.lexHead] using hB,h⟩
 | o :: l,k,listed,a,hl,hk,inv,hB,h => by
   have f:ops[k]?=some o:=by simpa using(hl 0 U2).symm
   simp only[List.length_cons,Region.lexHead,Bool.and_eq_true] at hB
   obtain⟨⟨p,m⟩,d⟩:=hB
   have b:k<n:=by simp only[List.length_cons] at hk;omega
   have c:k∈Region.ready md ops listed:=by simpa using p
   obtain⟨v,q,i⟩:=h
   exact wpAnyKL_first f (Region.noSelect_spec r) x t u b (fun listed' a' hL=>seqB_ready hL.1) l.length listed a inv (Region.free_spec f m) c q
    (wpAnyKL_lex r x t u l (k+1) _ _ (fun j hj=>by have:=hl (j+1) so;simpa[Nat.add_assoc,Nat.add_comm 1 j] using this) (by simp only[List.length_cons] at hk;omega) (inv.set c b) d i)
theorem qaI{v:Nat}{Q:Exit->Act->Wo->Prop}{a:Act}{w:Wo}{l:List Oper}(n:Nat)(S:Wo->Prop)(u:P.follows .mixedOrders=true)(r:Region.lexTailB .any l.toArray n=true)(s:S w.drew)(h:wpKeep P l.toArray S (fun a'=>∀w',S w'->wpList P l.toArray Q (l.drop n) a' w') (l.take n) a):(Code.region v l.toArray true).wp P Q a w:=by
 simp only[Region.lexTailB,Bool.and_eq_true,decide_eq_true_eq] at r;obtain⟨⟨⟨⟨f,m⟩,q⟩,o⟩,d⟩:=r;have p:n<l.length:=by simpa using m
 have b:(l.take n).length=n:=so;have c:(l.drop n).length=l.toArray.size-n:=U2
 have i:HeadInv .any l.toArray n (Array.replicate l.toArray.size false):=
  ⟨U2,fun j oj _ hl=>(by rw[getD_replicate_false] at hl;cases hl),fun t _ ht=>getD_in (by simpa using ht) (getD_replicate_false _ _)⟩
 have H:=wpAnyKL_lex (md:=.any) (S:=S) (g:=l.toArray.size-n) f q o m (l.take n) 0 _ a (fun j hj=>by
  have k:j<n:=by rw[b] at hj;exact hj
  simp[k]) (by simpa using b) i (by rw[b];exact d) h
 refine wp_region_any u ?_
 have:=qeD (Q':=Q) (g:=l.toArray.size-n) (fun listed a' w' hs' hL=>by
  have:=wpAny_of_seq (md:=.any) (Q':=Q) (l.drop n) n listed a' w' (fun j=>by simp[List.getElem?_drop]) (by rw[c];exact hL.1) (hL.2 w' hs')
  rwa [c] at this) _ _ a { w with drawn:=w.drawn+1 } s H
 rw[b,show n+(l.toArray.size-n)=l.toArray.size by omega] at this;exact this
theorem qaE{Q:Act->Prop}{a:Act}(h:Q a):wpKeep P ops S Q [] a:=h
theorem qaJ{Q:Act->Prop}{a:Act}{o:Oper}{rest:List Oper}{v:Value}(b:o.guard=none)(c:∀w,S w->(execOp a.eval o).run P w=.ok (.value v) w)(h:wpKeep P ops S Q rest (a.put o.dst v)):wpKeep P ops S Q (o :: rest) a:=
 ⟨v,.inl ⟨by simp[Region.wanted,b],fun w hS=>by rw[c w hS];exact⟨rfl,hS⟩⟩,h⟩
theorem qaO{Q:Act->Prop}{a:Act}{o:Oper}{rest:List Oper}{v:Value}{f:FuncId}{args:Array Value}(c:o.guard=none)(d:∀w,S w->(execOp a.eval o).run P w=.ok (.enter f args) w)(b:∀w,S w->Calls P f args w fun e w'=>e=.returned v/\S w')(h:wpKeep P ops S Q rest (a.put o.dst v)):wpKeep P ops S Q (o :: rest) a:=
 ⟨v,.inl ⟨by simp[Region.wanted,c],fun w hS=>by rw[d w hS];exact b w hS⟩,h⟩
theorem qbD{Q:Act->Prop}{a:Act}{o:Oper}{rest:List Oper}{v:Value}(b:Region.wanted o (yielded ops a.tmps)=true)(c:∀w,S w->(execOp a.eval o).run P w=.ok (.value v) w)(h:wpKeep P ops S Q rest (a.put o.dst v)):wpKeep P ops S Q (o :: rest) a:=
 ⟨v,.inl ⟨b,fun w hS=>by rw[c w hS];exact⟨rfl,hS⟩⟩,h⟩
theorem qcG{Q:Act->Prop}{a:Act}{o:Oper}{rest:List Oper}{v:Value}{f:FuncId}{args:Array Value}(c:Region.wanted o (yielded ops a.tmps)=true)(d:∀w,S w->(execOp a.eval o).run P w=.ok (.enter f args) w)(b:∀w,S w->Calls P f args w fun e w'=>e=.returned v/\S w')(h:wpKeep P ops S Q rest (a.put o.dst v)):wpKeep P ops S Q (o :: rest) a:=
 ⟨v,.inl ⟨c,fun w hS=>by rw[d w hS];exact b w hS⟩,h⟩
theorem qbI{Q:Act->Prop}{a:Act}{o:Oper}{rest:List Oper}(b:Region.wanted o (yielded ops a.tmps)=false)(h:wpKeep P ops S Q rest (a.put o.dst undef)):wpKeep P ops S Q (o :: rest) a:=
 ⟨undef,.inr ⟨b,rfl⟩,h⟩
end
end Go.Proofs.YtocbdafcolbfeaaGreat
namespace Go.Proofs.YtocbdafcolbfeaaGreat
section
variable {P:Program} {ops:Array Oper} {md:Region.Mode} {S:Wo->Prop} {Q:Exit->Act->Wo->Prop} {n g:Nat}
def wpAnyHL(P:Program)(md:Region.Mode)(ops:Array Oper)(Q:Exit->Act->Wo->Prop)(S:Wo->Prop)(n:Nat)(L:Array Bool->Act->Wo->Prop):Nat->Array Bool->Act->Wo->Prop
 |0,listed,a,w=>L listed a w
 |f + 1,listed,a,w=>
   Region.ready md ops listed≠[]/\∀i∈Region.ready md ops listed,i<n/\wpOp P ops Q i (fun a' w'=>S w'/\wpAnyHL P md ops Q S n L f (listed.setIfInBounds i true) a' w') a w
theorem wpAny_of_HL{L:Array Bool->Act->Wo->Prop}(b:∀ listed a w,L listed a w->wpAny P md ops Q g listed a w):
 ∀(f:Nat)(listed:Array Bool)(a:Act)(w:Wo),wpAnyHL P md ops Q S n L f listed a w->wpAny P md ops Q (f+g) listed a w
 |0,listed,a,w,h=>by rw[Nat.zero_add];exact b _ _ _ h
 |f + 1,listed,a,w,h=>by
   rw[show f+1+g=(f+g)+1 by omega]
   exact⟨fun h0=>absurd h0 h.1,fun i hi=>wpOp_mono (fun a' w' h'=>wpAny_of_HL b f _ a' w' h'.2) (h.2 i hi).2⟩
theorem wpAnyHL_first{i:Nat}{E:Oper}{v:Value}{L:Array Bool->Act->Wo->Prop}(J:ops[i]?=some E)(C:∀ (j:Nat)(o:Oper) cs b,ops[j]?=some o->o.op≠.select cs b)(N:Region.sinkB md ops n=true)(K:Region.chainB md ops n=true)(M:n<ops.size)(I:i<n)(D:∀ listed a w,L listed a w->∀ j∈Region.ready md ops listed,n<=j)(O:∀ c a w,Q (.panic c) (a.put E.dst v) w->Q (.panic c) a w):
 ∀(f:Nat)(listed:Array Bool)(a:Act)(w:Wo),HeadInv md ops n listed->
  (∀j oj,ops[j]?=some oj->j≠i->listed.getD j true=false->(∀e∈oj.after,Region.binds md e=true->e.on≠i)->E.apart ops oj=true)->
  i∈Region.ready md ops listed->YieldsIf P ops S E v a->S w->
  wpAnyHL P md ops Q S n L f (listed.setIfInBounds i true) (a.put E.dst v) w->wpAnyHL P md ops Q S n L (f+1) listed a w:=by
 intro f;induction f with
 |zero=>
  intro listed a w inv _ r A t H;have g:=(mem_ready.1 r).1;refine⟨fun h=>(by rw[h] at r;cases r),fun j hj=>?_⟩;have p:j<n:=by
   rcases Nat.lt_or_ge j n with h|h
   . exact h
   . exact absurd hj (tail_waits N K M inv _ i rfl I g j h)
  refine⟨p,?_⟩;by_cases d:j=i
  . subst d;exact A.wpOp J t ⟨t,H⟩
  . have:=D _ _ _ H j (ready_mono hj d);omega
 | succ f ih =>
  intro listed a w inv l r A t H;have g:=(mem_ready.1 r).1;refine⟨fun h=>(by rw[h] at r;cases r),fun j hj=>?_⟩;have p:j<n:=by
   rcases Nat.lt_or_ge j n with h|h
   . exact h
   . exact absurd hj (tail_waits N K M inv _ i rfl I g j h)
  refine⟨p,?_⟩;by_cases d:j=i
  . subst d;exact A.wpOp J t ⟨t,H⟩
  . have z := (H.2 j (ready_mono hj d)).2;obtain ⟨q,oj,s,u⟩:=mem_ready.1 hj;(have y:∀ e∈oj.after,Region.binds md e=true->e.on≠i:=fun e he hb heq=>by have z:=u e he hb;rw [heq,getD_both g] at z;cases z);have B:=wpOp_putIf s (l j oj s d q y) (fun cs b=>C i E cs b J) (fun cs b=>C j oj cs b s) O A z
    have m:∀k ok,ops[k]?=some ok->k≠i->(listed.setIfInBounds j true).getD k true=false->
     (∀e∈ok.after,Region.binds md e=true->e.on≠i)->E.apart ops ok=true:=fun k ok hk hki g hno=>by
     refine l k ok hk hki ?_ hno
     by_cases x:j=k
     . subst x;exact q
     . rw[getD_set_ne true x] at g;exact g
    refine wpOp_mono (fun a' w' h3=>⟨h3.2.1,ih (listed.setIfInBounds j true) a' w' (inv.set hj p) m (ready_mono r (Ne.symm d)) h3.1 h3.2.1 ?_⟩) B;rw[Array.setIfInBounds_comm _ _ d];exact h3.2.2
theorem qaX{o:Oper}(b:o.guard=none)(t:Nat->Option Bool):Region.wanted o t=true:=by simp[Region.wanted,b]
def wpMix(P:Program)(S:Wo->Prop)(K:Act->Wo->Prop):List (Bool × Oper)->Act->Wo->Prop
 |[],a,w=>K a w
 |(true,o):: r,a,w=>∃v,(o.guard=none/\∀w,S w->(execOp a.eval o).run P w=.ok (.value v) w)/\wpMix P S K r (a.put o.dst v) w
 | (false,o) :: r,a,w => o.guard = none /\ ((∃ f args,(execOp a.eval o).run P w = .ok (.enter f args) w /\ Calls P f args w fun e w' => ∃ u,e = .returned u /\ S w' /\ wpMix P S K r (a.put o.dst u) w') \/
     (∃v w',(execOp a.eval o).run P w=.ok (.value v) w'/\S w'/\wpMix P S K r (a.put o.dst v) w'))
theorem qeJ{K:Act->Wo->Prop}{a:Act}{w:Wo}(h:K a w):wpMix P S K [] a w:=h
theorem qcH{K:Act->Wo->Prop}{o:Oper}{r:List (Bool × Oper)}{v:Value}{a:Act}{w:Wo}(b:o.guard=none)(c:∀w,S w->(execOp a.eval o).run P w=.ok (.value v) w)(h:wpMix P S K r (a.put o.dst v) w):wpMix P S K ((true,o):: r) a w:=⟨v,⟨b,c⟩,h⟩
theorem qcS{K:Act->Wo->Prop}{a:Act}{w:Wo}{o:Oper}{r:List (Bool × Oper)}(j:o.guard=none)(f:TypeId)(x:Operand)(l:o.op=.load f x)(b c:Nat)(p:a.eval x=.pointer (some (zA b c)))(cs:List Value)(d:TypeDesc)(i:∀w,S w->w.rangeAt b c cs)(m:P.underlying f=some d)(hd:d.isRow=true)(k:(P.info? f).map (·.size)=some cs.length)(h:wpMix P S K r (a.put o.dst (.agg cs.toArray)) w):wpMix P S K ((true,o):: r) a w:=by refine qcH j (fun W hW=>?_) h;unfold execOp;simp only[l,p,Instr.loadAt,Instr.sureAddr,Sem.run_bind,Sem.run_pure,Result.andThen_ok,run_loadVar_mid W b c f cs d (i W hW) m hd k]
theorem qcE{K:Act->Wo->Prop}{o:Oper}{r:List (Bool × Oper)}{f:FuncId}{args:Array Value}{a:Act}{w:Wo}(b:o.guard=none)(c:(execOp a.eval o).run P w=.ok (.enter f args) w)(h:Calls P f args w fun e w'=>∃u,e=.returned u/\S w'/\wpMix P S K r (a.put o.dst u) w'):wpMix P S K ((false,o):: r) a w:=⟨b,.inl ⟨f,args,c,h⟩⟩
theorem mix_step{K:Act->Wo->Prop}{o:Oper}{r:List (Bool × Oper)}{v:Value}{w':Wo}{a:Act}{w:Wo}(c:o.guard=none)(d:(execOp a.eval o).run P w=.ok (.value v) w')(b:S w')(h:wpMix P S K r (a.put o.dst v) w'):wpMix P S K ((false,o):: r) a w:=⟨c,.inr ⟨v,w',d,b,h⟩⟩
def Region.mixB(md:Region.Mode)(ops:Array Oper)(n g:Nat):List (Bool × Nat)->Array Bool->Bool
 |[],listed=>Region.seqB md ops g n listed
 |(true,k):: r,listed=>(Region.ready md ops listed).contains k && Region.free md ops listed k && decide (k<n) && Region.mixB md ops n g r (listed.setIfInBounds k true)
 |(false,k):: r,listed=>decide (Region.ready md ops listed=[k]) && decide (k<n) && Region.mixB md ops n g r (listed.setIfInBounds k true)
def Region.mixTailB(md:Region.Mode)(ops:Array Oper)(n:Nat)(ord:List (Bool × Nat)):Bool:=
 Region.noSelect ops && decide (n<ops.size) && Region.sinkB md ops n && Region.chainB md ops n && decide (ord.length=n) && Region.mixB md ops n (ops.size-n) ord (Array.replicate ops.size false)
theorem qdG{l:List Oper}{d:Oper}{M:Act->Wo->Prop}(H:ops=l.toArray)(E:Region.noSelect ops=true)(L:Region.sinkB md ops n=true)(K:Region.chainB md ops n=true)(I:n<ops.size)(J:∀ c (a:Act) (dst:Option Tmp) v w,Q (.panic c) (a.put dst v) w->Q (.panic c) a w):
 ∀(ord:List (Bool × Nat))(listed:Array Bool)(a:Act)(w:Wo),HeadInv md ops n listed->Region.mixB md ops n g ord listed=true->S w->wpMix P S M (ord.map fun x=>(x.1,l.getD x.2 d)) a w->
  wpAnyHL P md ops Q S n (fun listed' a' w'=>Region.seqB md ops g n listed'=true/\M a' w') ord.length listed a w
 |[],listed,a,w,_,hB,_,h=>⟨hB,h⟩
 | (true,k) :: r,listed,a,w,inv,hB,hS,h => by
   simp only[Region.mixB,Bool.and_eq_true,decide_eq_true_eq] at hB
   obtain⟨⟨⟨hr,hf⟩,hkn⟩,hB'⟩:=hB
   have s:k∈Region.ready md ops listed:=by simpa using hr
   obtain⟨v,⟨z,D⟩,C⟩:=h
   have t:ops[k]?=some (l.getD k d):=by
    have p:k<l.length:=by have:=I;rw[H] at this;simp at this;omega
    rw[H]
    simp[List.getD,p]
   exact wpAnyHL_first t (Region.noSelect_spec E) L K I hkn (fun listed' a' w' hL=>seqB_ready hL.1) (fun c a w=>J c a _ v w) r.length listed a w inv (Region.free_spec t hf) s (.inl ⟨qaX z _,D⟩) hS
    (qdG H E L K I J r _ _ _ (inv.set s hkn) hB' hS C)
 | (false,k) :: r,listed,a,w,inv,hB,hS,h => by
   simp only[Region.mixB,Bool.and_eq_true,decide_eq_true_eq] at hB
   obtain⟨⟨hr,hkn⟩,hB'⟩:=hB
   obtain⟨z,o⟩:=h
   have t:ops[k]?=some (l.getD k d):=by
    have p:k<l.length:=by have:=I;rw[H] at this;simp at this;omega
    rw[H]
    simp[List.getD,p]
   refine⟨fun h0=>(by rw[hr] at h0;cases h0),fun j hj=>?_⟩
   have q:=hj
   rw[hr] at hj
   have A:j=k:=by simpa using hj
   subst A
   refine⟨hkn,?_⟩
   unfold wpOp
   simp only[t]
   rw[if_pos (qaX z _)]
   refine .inl ?_
   unfold Oper.wp
   rcases o with⟨f,B,i,m⟩|⟨v,w',i,b,y⟩
   . rw [i]
     exact m.mono fun e w' ⟨u,he,b,y⟩=>by
      subst he
      exact⟨b,qdG H E L K I J r _ _ _ (inv.set q hkn) hB' b y⟩
   . rw[i]
     exact⟨b,qdG H E L K I J r _ _ _ (inv.set q hkn) hB' b y⟩
theorem qbM{z:Nat}{a:Act}{w:Wo}{l:List Oper}(n:Nat)(S:Wo->Prop)(q:List (Bool × Nat))(d:Oper)(y:P.follows .mixedOrders=true)(r:Region.mixTailB .any l.toArray n q=true)(s:∀c (a:Act) (dst:Option Tmp) v w,Q (.panic c) (a.put dst v) w->Q (.panic c) a w)(u:S w.drew)(h:wpMix P S (wpList P l.toArray Q (l.drop n)) (q.map fun x=>(x.1,l.getD x.2 d)) a w.drew):(Code.region z l.toArray true).wp P Q a w:=by
 simp only[Region.mixTailB,Bool.and_eq_true,decide_eq_true_eq] at r;obtain⟨⟨⟨⟨⟨f,o⟩,p⟩,m⟩,k⟩,b⟩:=r
 have i:HeadInv .any l.toArray n (Array.replicate l.toArray.size false):=
  ⟨U2,fun j oj _ hl=>(by rw[getD_replicate_false] at hl;cases hl),fun t _ ht=>getD_in (by simpa using ht) (getD_replicate_false _ _)⟩
 have H:=qdG (P:=P) (Q:=Q) (md:=.any) (g:=l.toArray.size-n) rfl f p m o s q _ a w.drew i b u h;refine wp_region_any y ?_
 have:=wpAny_of_HL (g:=l.toArray.size-n) (fun listed' a' w' hL=>by
  have:=wpAny_of_seq (P:=P) (md:=.any) (Q':=Q) (l.drop n) n listed' a' w' (fun j=>by simp[List.getElem?_drop]) (by simpa using hL.1) hL.2
  simpa using this) _ _ a w.drew H
 rw[k,show n+(l.toArray.size-n)=l.toArray.size by omega] at this;exact this
end
section
variable {P:Program} {ops:Array Oper} {md:Region.Mode} {S:Wo->Prop} {Q:Exit->Act->Wo->Prop} {n g s:Nat}
def wpAnyHF(P:Program)(md:Region.Mode)(ops:Array Oper)(Q:Exit->Act->Wo->Prop)(S:Wo->Prop)(n s:Nat)(L:Array Bool->Act->Wo->Prop):Nat->Array Bool->Act->Wo->Prop
 |0,listed,a,w=>L listed a w
 |f + 1,listed,a,w=>
   Region.ready md ops listed≠[]/\∀i∈Region.ready md ops listed,i<n/\wpOp P ops Q i (fun a' w'=>((listed.setIfInBounds i true).getD s false=false->S w')/\wpAnyHF P md ops Q S n s L f (listed.setIfInBounds i true) a' w') a w
theorem qeK{L:Array Bool->Act->Wo->Prop}(b:∀ listed a w,L listed a w->wpAny P md ops Q g listed a w):
 ∀(f:Nat)(listed:Array Bool)(a:Act)(w:Wo),wpAnyHF P md ops Q S n s L f listed a w->wpAny P md ops Q (f+g) listed a w
 |0,listed,a,w,h=>by rw[Nat.zero_add];exact b _ _ _ h
 |f + 1,listed,a,w,h=>by
   rw[show f+1+g=(f+g)+1 by omega]
   exact⟨fun h0=>absurd h0 h.1,fun i hi=>wpOp_mono (fun a' w' h'=>qeK b f _ a' w' h'.2) (h.2 i hi).2⟩
theorem qaQ{b:Array Bool}{i k:Nat}(h:i≠k):(b.setIfInBounds i true).getD k false=b.getD k false:=getD_set_ne false h
theorem qbR{i:Nat}{oi:Oper}{v:Value}{L:Array Bool->Act->Wo->Prop}(hi:ops[i]?=some oi)(X:∀ (j:Nat)(o:Oper) cs b,ops[j]?=some o->o.op≠.select cs b)(hs:Region.sinkB md ops n=true)(hc:Region.chainB md ops n=true)(hn:n<ops.size)(ab:i<n)(aa:i≠s)(Z:∀ listed a w,L listed a w->∀ j∈Region.ready md ops listed,n<=j)(hQ:∀ c a w,Q (.panic c) (a.put oi.dst v) w->Q (.panic c) a w)(T:Wo->Prop)(hT:(∀ w,T w)\/((∀ w,S w->T w)/\(Region.waitsFor md ops s i=true\/n<=s))):
 ∀(f:Nat)(listed:Array Bool)(a:Act)(w:Wo),HeadInv md ops n listed->
  (∀j oj,ops[j]?=some oj->j≠i->listed.getD j true=false->(∀e∈oj.after,Region.binds md e=true->e.on≠i)->oi.apart ops oj=true)->
  i∈Region.ready md ops listed->YieldsIf P ops T oi v a->T w->(listed.getD s false=false->S w)->
  wpAnyHF P md ops Q S n s L f (listed.setIfInBounds i true) (a.put oi.dst v) w->wpAnyHF P md ops Q S n s L (f+1) listed a w:=by
 intro f;induction f with
 |zero=>
  intro listed a w inv _ u M z N H;have g:=(mem_ready.1 u).1;refine⟨fun h=>(by rw[h] at u;cases u),fun j hj=>?_⟩;have m:j<n:=by
   rcases Nat.lt_or_ge j n with h|h
   . exact h
   . exact absurd hj (tail_waits hs hc hn inv _ i rfl ab g j h)
  refine⟨m,?_⟩;by_cases d:j=i
  . subst d;exact M.wpOp hi z ⟨fun h=>N (by rwa [qaQ aa] at h),H⟩
  . have:=Z _ _ _ H j (ready_mono hj d);omega
 | succ f ih =>
  intro listed a w inv l u M z N H;have g:=(mem_ready.1 u).1;refine⟨fun h=>(by rw[h] at u;cases u),fun j hj=>?_⟩;have m:j<n:=by
   rcases Nat.lt_or_ge j n with h|h
   . exact h
   . exact absurd hj (tail_waits hs hc hn inv _ i rfl ab g j h)
  refine⟨m,?_⟩;by_cases d:j=i
  . subst d;exact M.wpOp hi z ⟨fun h=>N (by rwa [qaQ aa] at h),H⟩
  . have K := (H.2 j (ready_mono hj d)).2;obtain ⟨r,oj,q,D⟩:=mem_ready.1 hj;(have t:∀ e∈oj.after,Region.binds md e=true->e.on≠i:=fun e I E heq=>by have K:=D e I E;rw [heq,getD_both g] at K;cases K);have V:=wpOp_putIf q (l j oj q d r t) (fun cs b=>X i oi cs b hi) (fun cs b=>X j oj cs b q) hQ M K
    have p:∀k ok,ops[k]?=some ok->k≠i->(listed.setIfInBounds j true).getD k true=false->
     (∀e∈ok.after,Region.binds md e=true->e.on≠i)->oi.apart ops ok=true:=fun k ok hk hki g hno=>by
     refine l k ok hk hki ?_ hno
     by_cases J:j=k
     . subst J;exact r
     . rw[getD_set_ne true J] at g;exact g
    (have A:((listed.setIfInBounds i true).setIfInBounds j true).getD s false=(listed.setIfInBounds j true).getD s false:=by rw [Array.setIfInBounds_comm _ _ (Ne.symm d),qaQ aa]);refine wpOp_mono (fun a' w' h3=>?_) V;have y:(listed.setIfInBounds j true).getD s false=false->S w':=fun h=>h3.2.1 (by rw [A];exact h);have O:T w':=by
     rcases hT with hT|⟨hT,hw⟩
     . exact hT w'
     . refine hT w' (y ?_);rcases hw with hw|hw;rotate_left
       . have x:=inv.set hj m;rcases Nat.lt_or_ge s ops.size with h|h
         . exact getD_both (x.tail s hw h)
         . (have W:(listed.setIfInBounds j true).size<=s:=by rw[x.size];exact h);simp[Array.getD_eq_getD_getElem?,Array.getElem?_eq_none W]
       (have R:j≠s:=fun e=>by subst e;obtain⟨U,C,e,I,E,B⟩:=Region.waitsFor_spec hw;have:U=oj:=Option.some.inj (C.symm.trans q);subst this;exact t e I E B);rw[qaQ R];cases hls:listed.getD s false with
       |false=>rfl
       |true=>obtain⟨U,C,e,I,E,B⟩:=Region.waitsFor_spec hw;have:=inv.closed s U C hls e I E;rw[B,getD_both g] at this;cases this
    refine⟨y,ih (listed.setIfInBounds j true) a' w' (inv.set hj m) p (ready_mono u (Ne.symm d)) h3.1 O y ?_⟩;rw[Array.setIfInBounds_comm _ _ d];exact h3.2.2
def wpMixF(P:Program)(S:Wo->Prop)(K:Act->Wo->Prop):List (Nat × Oper)->Act->Wo->Prop
 |[],a,w=>K a w
 |(0,o):: r,a,w=>∃v,(o.guard=none/\∀w,S w->(execOp a.eval o).run P w=.ok (.value v) w)/\wpMixF P S K r (a.put o.dst v) w
 |(1,o):: r,a,w=>∃v,(o.guard=none/\∀w,(execOp a.eval o).run P w=.ok (.value v) w)/\wpMixF P S K r (a.put o.dst v) w
 | (2,o) :: r,a,w => o.guard = none /\ ((∃ f args,(execOp a.eval o).run P w = .ok (.enter f args) w /\ Calls P f args w fun e w' => ∃ u,e = .returned u /\ S w' /\ wpMixF P S K r (a.put o.dst u) w') \/
     (∃v w',(execOp a.eval o).run P w=.ok (.value v) w'/\S w'/\wpMixF P S K r (a.put o.dst v) w'))
 |(_,o):: r,a,w=>o.guard=none/\∃w',(execOp a.eval o).run P w=.ok .skip w'/\wpMixF P S K r (a.put o.dst undef) w'
section
variable {K:Act->Wo->Prop} {o:Oper} {r:List (Nat × Oper)} {a:Act} {w:Wo}
theorem qbH(h:K a w):wpMixF P S K [] a w:=h
theorem qbF{v:Value}(b:o.guard=none)(c:∀w,S w->(execOp a.eval o).run P w=.ok (.value v) w)(h:wpMixF P S K r (a.put o.dst v) w):wpMixF P S K ((0,o):: r) a w:=⟨v,⟨b,c⟩,h⟩
theorem qaM{v:Value}(b:o.guard=none)(c:∀w,(execOp a.eval o).run P w=.ok (.value v) w)(h:wpMixF P S K r (a.put o.dst v) w):wpMixF P S K ((1,o):: r) a w:=⟨v,⟨b,c⟩,h⟩
theorem qaT(j:o.guard=none)(f:TypeId)(x:Operand)(l:o.op=.load f x)(b c:Nat)(p:a.eval x=.pointer (some (zA b c)))(cs:List Value)(d:TypeDesc)(i:∀w,S w->w.rangeAt b c cs)(m:P.underlying f=some d)(hd:d.isRow=true)(k:(P.info? f).map (·.size)=some cs.length)(h:wpMixF P S K r (a.put o.dst (.agg cs.toArray)) w):wpMixF P S K ((0,o):: r) a w:=by refine qbF j (fun W hW=>?_) h;unfold execOp;simp only[l,p,Instr.loadAt,Instr.sureAddr,Sem.run_bind,Sem.run_pure,Result.andThen_ok,run_loadVar_mid W b c f cs d (i W hW) m hd k]
theorem qbE{f:FuncId}{args:Array Value}(b:o.guard=none)(c:(execOp a.eval o).run P w=.ok (.enter f args) w)(h:Calls P f args w fun e w'=>∃u,e=.returned u/\S w'/\wpMixF P S K r (a.put o.dst u) w'):wpMixF P S K ((2,o):: r) a w:=⟨b,.inl ⟨f,args,c,h⟩⟩
theorem qdM{v:Value}{w':Wo}(c:o.guard=none)(d:(execOp a.eval o).run P w=.ok (.value v) w')(b:S w')(h:wpMixF P S K r (a.put o.dst v) w'):wpMixF P S K ((2,o):: r) a w:=⟨c,.inr ⟨v,w',d,b,h⟩⟩
theorem mixf_store{w':Wo}(b:o.guard=none)(c:(execOp a.eval o).run P w=.ok .skip w')(h:wpMixF P S K r (a.put o.dst undef) w'):wpMixF P S K ((3,o):: r) a w:=⟨b,w',c,h⟩
end
def Region.mixFB(md:Region.Mode)(ops:Array Oper)(n g s:Nat):List (Nat × Nat)->Array Bool->Bool
 |[],listed=>Region.seqB md ops g n listed
 |(0,k):: r,listed=>(Region.ready md ops listed).contains k && Region.free md ops listed k && decide (k<n) && decide (k≠s) && (Region.waitsFor md ops s k || decide (n<=s)) && !(listed.getD s false) && Region.mixFB md ops n g s r (listed.setIfInBounds k true)
 |(1,k):: r,listed=>(Region.ready md ops listed).contains k && Region.free md ops listed k && decide (k<n) && decide (k≠s) && Region.mixFB md ops n g s r (listed.setIfInBounds k true)
 |(2,k):: r,listed=>decide (Region.ready md ops listed=[k]) && decide (k<n) && Region.mixFB md ops n g s r (listed.setIfInBounds k true)
 |(_,k):: r,listed=>decide (Region.ready md ops listed=[k]) && decide (k<n) && decide (k=s) && (listed.setIfInBounds k true).getD s false && Region.mixFB md ops n g s r (listed.setIfInBounds k true)
def Region.mixFTailB(md:Region.Mode)(ops:Array Oper)(n s:Nat)(ord:List (Nat × Nat)):Bool:=
 Region.noSelect ops && decide (n<ops.size) && Region.sinkB md ops n && Region.chainB md ops n && decide (ord.length=n) && Region.mixFB md ops n (ops.size-n) s ord (Array.replicate ops.size false)
theorem qcV{l:List Oper}{d:Oper}{k:Nat}(c:ops=l.toArray)(h:k<n)(f:n<ops.size):ops[k]?=some (l.getD k d):=by
 have b:k<l.length:=by rw[c] at f;simp at f;omega
 rw[c];simp[List.getD,b]
theorem qbP{l:List Oper}{d:Oper}{T:Act->Wo->Prop}(M:ops=l.toArray)(J:Region.noSelect ops=true)(R:Region.sinkB md ops n=true)(O:Region.chainB md ops n=true)(L:n<ops.size)(N:∀ c (a:Act) (dst:Option Tmp) v w,Q (.panic c) (a.put dst v) w->Q (.panic c) a w):
 ∀(ord:List (Nat × Nat))(listed:Array Bool)(a:Act)(w:Wo),HeadInv md ops n listed->Region.mixFB md ops n g s ord listed=true->(listed.getD s false=false->S w)->wpMixF P S T (ord.map fun x=>(x.1,l.getD x.2 d)) a w->
  wpAnyHF P md ops Q S n s (fun listed' a' w'=>Region.seqB md ops g n listed'=true/\T a' w') ord.length listed a w
 |[],listed,a,w,_,hB,_,h=>⟨hB,h⟩
 | (0,k) :: r,listed,a,w,inv,hB,hS,h => by
   simp only[Region.mixFB,Bool.and_eq_true,Bool.or_eq_true,decide_eq_true_eq,Bool.not_eq_true'] at hB
   obtain⟨⟨⟨⟨⟨⟨hr,hf⟩,hkn⟩,hks⟩,hw⟩,hls⟩,hB'⟩:=hB
   have m:k∈Region.ready md ops listed:=by simpa using hr
   obtain⟨v,⟨z,H⟩,D⟩:=h
   have p:=qcV (d:=d) M hkn L
   exact qbR p (Region.noSelect_spec J) R O L hkn hks (fun listed' a' w' hL=>seqB_ready hL.1) (fun c a w=>N c a _ v w) S (.inr ⟨fun _ h=>h,hw⟩) r.length listed a w inv (Region.free_spec p hf) m (.inl ⟨qaX z _,H⟩) (hS hls) hS
    (qbP M J R O L N r _ _ _ (inv.set m hkn) hB' (fun h=>hS (by rwa [qaQ hks] at h)) D)
 | (1,k) :: r,listed,a,w,inv,hB,hS,h => by
   simp only[Region.mixFB,Bool.and_eq_true,decide_eq_true_eq] at hB
   obtain⟨⟨⟨⟨hr,hf⟩,hkn⟩,hks⟩,hB'⟩:=hB
   have m:k∈Region.ready md ops listed:=by simpa using hr
   obtain⟨v,⟨z,H⟩,D⟩:=h
   have p:=qcV (d:=d) M hkn L
   exact qbR p (Region.noSelect_spec J) R O L hkn hks (fun listed' a' w' hL=>seqB_ready hL.1) (fun c a w=>N c a _ v w) (fun _=>True) (.inl fun _=>trivial) r.length listed a w inv (Region.free_spec p hf) m (.inl ⟨qaX z _,fun w _=>H w⟩) trivial hS
    (qbP M J R O L N r _ _ _ (inv.set m hkn) hB' (fun h=>hS (by rwa [qaQ hks] at h)) D)
 | (2,k) :: r,listed,a,w,inv,hB,hS,h => by
   simp only[Region.mixFB,Bool.and_eq_true,decide_eq_true_eq] at hB
   obtain⟨⟨hr,hkn⟩,hB'⟩:=hB
   obtain⟨z,y⟩:=h
   have p:=qcV (d:=d) M hkn L
   refine⟨fun h0=>(by rw[hr] at h0;cases h0),fun j hj=>?_⟩
   have o:=hj
   rw[hr] at hj
   have A:j=k:=by simpa using hj
   subst A
   refine⟨hkn,?_⟩
   unfold wpOp
   simp only[p]
   rw[if_pos (qaX z _)]
   refine .inl ?_
   unfold Oper.wp
   rcases y with⟨f,I,b,q⟩|⟨v,w',b,i,B⟩
   . rw [b]
     exact q.mono fun e w' ⟨u,he,i,B⟩=>by
      subst he
      exact⟨fun _=>i,qbP M J R O L N r _ _ _ (inv.set o hkn) hB' (fun _=>i) B⟩
   . rw[b]
     exact⟨fun _=>i,qbP M J R O L N r _ _ _ (inv.set o hkn) hB' (fun _=>i) B⟩
 |(t + 3,k):: r,listed,a,w,inv,hB,hS,h=>by
   simp only[Region.mixFB,Bool.and_eq_true,decide_eq_true_eq] at hB
   obtain⟨⟨⟨⟨hr,hkn⟩,hks⟩,E⟩,hB'⟩:=hB
   obtain⟨z,w',b,B⟩:=h
   have p:=qcV (d:=d) M hkn L
   refine⟨fun h0=>(by rw[hr] at h0;cases h0),fun j hj=>?_⟩
   have o:=hj
   rw[hr] at hj
   have A:j=k:=by simpa using hj
   subst A
   refine⟨hkn,?_⟩
   unfold wpOp
   simp only[p]
   rw[if_pos (qaX z _)]
   refine .inl ?_
   unfold Oper.wp
   rw[b]
   have C:(listed.setIfInBounds j true).getD s false=false->S w':=fun h=>by rw[E] at h;cases h
   exact⟨C,qbP M J R O L N r _ _ _ (inv.set o hkn) hB' C B⟩
theorem qaS{B:Nat}{a:Act}{w:Wo}{l:List Oper}(n s:Nat)(S:Wo->Prop)(q:List (Nat × Nat))(d:Oper)(A:P.follows .mixedOrders=true)(u:Region.mixFTailB .any l.toArray n s q=true)(y:∀c (a:Act) (dst:Option Tmp) v w,Q (.panic c) (a.put dst v) w->Q (.panic c) a w)(z:S w.drew)(h:wpMixF P S (wpList P l.toArray Q (l.drop n)) (q.map fun x=>(x.1,l.getD x.2 d)) a w.drew):(Code.region B l.toArray true).wp P Q a w:=by
 simp only[Region.mixFTailB,Bool.and_eq_true,decide_eq_true_eq] at u;obtain⟨⟨⟨⟨⟨f,o⟩,p⟩,m⟩,k⟩,b⟩:=u
 have i:HeadInv .any l.toArray n (Array.replicate l.toArray.size false):=
  ⟨U2,fun j oj _ hl=>(by rw[getD_replicate_false] at hl;cases hl),fun t _ ht=>getD_in (by simpa using ht) (getD_replicate_false _ _)⟩
 have H:=qbP (P:=P) (Q:=Q) (md:=.any) (g:=l.toArray.size-n) rfl f p m o y q _ a w.drew i b (fun _=>z) h;refine wp_region_any A ?_
 have:=qeK (g:=l.toArray.size-n) (fun listed' a' w' hL=>by
  have:=wpAny_of_seq (P:=P) (md:=.any) (Q':=Q) (l.drop n) n listed' a' w' (fun j=>by simp[List.getElem?_drop]) (by simpa using hL.1) hL.2
  simpa using this) _ _ a w.drew H
 rw[k,show n+(l.toArray.size-n)=l.toArray.size by omega] at this;exact this
end
end Go.Proofs.YtocbdafcolbfeaaGreat
namespace Go.Proofs.YtocbdafcolbfeaaGreat
open Go.RowKit
section
variable {P:Program} {ops:Array Oper} {md:Region.Mode} {S:Wo->Prop} {Q:Exit->Act->Wo->Prop} {n g s x lo:Nat} {ox:Oper} {ob:Obj}
def ptrTo(b:Nat):Value:=zP b
def StepTo(P:Program)(o:Oper)(a:Act)(W:Wo)(Φ:Value->Wo->Prop):Prop:=
 (∃f args,(execOp a.eval o).run P W=.ok (.enter f args) W/\Calls P f args W fun e w'=>∃u,e=.returned u/\Φ u w')\/(∃v w',(execOp a.eval o).run P W=.ok (.value v) w'/\Φ v w')
def wpX(P:Program)(S:Wo->Prop)(ob:Obj)(dx:Option Tmp)(lo:Nat)(K:Act->Wo->Prop)(r2:List (Nat × Oper)):List (Nat × Oper)->(Nat->Prop)->Act->Wo->Prop
 |[],F,a,w=>∀W b,zB w W->S W->lo<=b->¬F b->W.heap[b]?=some ob->wpMixF P S K r2 (a.put dx (ptrTo b)) W
 |(0,o):: r,F,a,w=>∃v,(o.guard=none/\∀w,S w->(execOp a.eval o).run P w=.ok (.value v) w)/\wpX P S ob dx lo K r2 r F (a.put o.dst v) w
 |(1,o):: r,F,a,w=>∃v,(o.guard=none/\∀w,(execOp a.eval o).run P w=.ok (.value v) w)/\wpX P S ob dx lo K r2 r F (a.put o.dst v) w
 |(_,o):: r,F,a,w=>o.guard=none/\∀W,zB w W->S W->StepTo P o a W fun u w'=>S w'/\zB W w'/\wpX P S ob dx lo K r2 r (fun b=>F b\/(W.heap.size<=b/\b<w'.heap.size)) (a.put o.dst u) w'
section
variable {dx:Option Tmp} {K:Act->Wo->Prop} {o:Oper} {r r2:List (Nat × Oper)} {F:Nat->Prop} {a:Act} {w:Wo}
theorem x_nil(h:∀W b,zB w W->S W->lo<=b->¬F b->W.heap[b]?=some ob->wpMixF P S K r2 (a.put dx (ptrTo b)) W):wpX P S ob dx lo K r2 [] F a w:=h
theorem x_val{v:Value}(b:o.guard=none)(c:∀w,S w->(execOp a.eval o).run P w=.ok (.value v) w)(h:wpX P S ob dx lo K r2 r F (a.put o.dst v) w):wpX P S ob dx lo K r2 ((0,o):: r) F a w:=⟨v,⟨b,c⟩,h⟩
theorem x_free{v:Value}(b:o.guard=none)(c:∀w,(execOp a.eval o).run P w=.ok (.value v) w)(h:wpX P S ob dx lo K r2 r F (a.put o.dst v) w):wpX P S ob dx lo K r2 ((1,o):: r) F a w:=⟨v,⟨b,c⟩,h⟩
theorem x_load_mid(j:o.guard=none)(f:TypeId)(y:Operand)(l:o.op=.load f y)(b c:Nat)(p:a.eval y=.pointer (some (zA b c)))(cs:List Value)(d:TypeDesc)(i:∀w,S w->w.rangeAt b c cs)(m:P.underlying f=some d)(hd:d.isRow=true)(k:(P.info? f).map (·.size)=some cs.length)(h:wpX P S ob dx lo K r2 r F (a.put o.dst (.agg cs.toArray)) w):wpX P S ob dx lo K r2 ((0,o):: r) F a w:=by refine x_val j (fun W hW=>?_) h;unfold execOp;simp only[l,p,Instr.loadAt,Instr.sureAddr,Sem.run_bind,Sem.run_pure,Result.andThen_ok,run_loadVar_mid W b c f cs d (i W hW) m hd k]
theorem x_call{f:FuncId}{args:Array Value}(c:o.guard=none)(d:∀W,(execOp a.eval o).run P W=.ok (.enter f args) W)(h:∀W,zB w W->S W->Calls P f args W fun e w'=>∃u,e=.returned u/\S w'/\zB W w'/\wpX P S ob dx lo K r2 r (fun b=>F b\/(W.heap.size<=b/\b<w'.heap.size)) (a.put o.dst u) w'):wpX P S ob dx lo K r2 ((2,o):: r) F a w:=
 ⟨c,fun W hb hS=>.inl ⟨f,args,d W,h W hb hS⟩⟩
end
def Region.apartB(ops:Array Oper)(x k:Nat):Bool:=match ops[x]?,ops[k]? with|some ox,some ok=>ox.apart ops ok|_,_=>false
def Region.mixXt(md:Region.Mode)(ops:Array Oper)(n g s x:Nat)(ord2:List (Nat × Nat)):List (Nat × Nat)->Array Bool->Bool
 |[],listed=>Region.mixFB md ops n g s ord2 listed
 |(0,k):: r,listed=>(Region.ready md ops listed).contains k && Region.free md ops listed k && decide (k<n) && decide (k≠s) && Region.waitsFor md ops s k && Region.apartB ops x k && Region.mixXt md ops n g s x ord2 r (listed.setIfInBounds k true)
 |(1,k):: r,listed=>(Region.ready md ops listed).contains k && Region.free md ops listed k && decide (k<n) && decide (k≠s) && Region.apartB ops x k && Region.mixXt md ops n g s x ord2 r (listed.setIfInBounds k true)
 |(_,k):: r,listed=>decide (Region.ready md ops listed=[k]) && decide (k<n) && decide (k≠s) && Region.apartB ops x k && Region.mixXt md ops n g s x ord2 r (listed.setIfInBounds k true)
def Region.mixXf(md:Region.Mode)(ops:Array Oper)(n g s x:Nat)(ord2:List (Nat × Nat)):List (Nat × Nat)->Array Bool->Bool
 |[],listed=>decide (Region.ready md ops listed=[x]) && Region.mixXt md ops n g s x ord2 [] (listed.setIfInBounds x true)
 |(0,k):: r,listed=>(Region.ready md ops listed).contains k && Region.free md ops listed k && decide (k<n) && decide (k≠s) && Region.waitsFor md ops s k && Region.mixXf md ops n g s x ord2 r (listed.setIfInBounds k true)
 |(1,k):: r,listed=>(Region.ready md ops listed).contains k && Region.free md ops listed k && decide (k<n) && decide (k≠s) && Region.mixXf md ops n g s x ord2 r (listed.setIfInBounds k true)
 |(t,k):: r,listed=>decide (Region.ready md ops listed=[k,x]) && decide (k<n) && decide (k≠s) && Region.mixXf md ops n g s x ord2 r (listed.setIfInBounds k true) && Region.mixXt md ops n g s x ord2 ((t,k):: r) (listed.setIfInBounds x true)
theorem qeM{k:Nat}{ok:Oper}(c:ops[x]?=some ox)(b:ops[k]?=some ok)(h:Region.apartB ops x k=true):ox.apart ops ok=true:=by unfold Region.apartB at h;simp only[c,b] at h;exact h
theorem qdX{l:List Oper}{d:Oper}{Lq:Act->Wo->Prop}(U:ops=l.toArray)(R:Region.noSelect ops=true)(Z:Region.sinkB md ops n=true)(X:Region.chainB md ops n=true)(T:n<ops.size)(V:∀ c (a:Act) (dst:Option Tmp) v w,Q (.panic c) (a.put dst v) w->Q (.panic c) a w)(hx:ops[x]?=some ox)(O:List (Nat × Nat)):
 ∀(ord:List (Nat × Nat))(listed:Array Bool)(F:Nat->Prop)(a:Act)(w W:Wo)(b:Nat),HeadInv md ops n listed->Region.mixXt md ops n g s x O ord listed=true->listed.getD s false=false->wpX P S ob ox.dst lo Lq (O.map fun y=>(y.1,l.getD y.2 d)) (ord.map fun y=>(y.1,l.getD y.2 d)) F a w->
  zB w W->S W->lo<=b->¬F b->W.heap[b]?=some ob->
  wpAnyHF P md ops Q S n s (fun listed' a' w'=>Region.seqB md ops g n listed'=true/\Lq a' w') (ord.length+O.length) listed (a.put ox.dst (ptrTo b)) W
 |[],listed,F,a,w,W,b,inv,hB,hls,h,hW,hS,hlo,hF,hb=>by
   rw[List.length_nil,Nat.zero_add]
   exact qbP U R Z X T V O listed _ W inv hB (fun _=>hS) (h W b hW hS hlo hF hb)
 | (0,k) :: r,listed,F,a,w,W,b,inv,hB,hls,h,hW,hS,hlo,hF,hb => by
   simp only[Region.mixXt,Bool.and_eq_true,decide_eq_true_eq] at hB
   obtain⟨⟨⟨⟨⟨⟨hr,hf⟩,hkn⟩,hks⟩,hw⟩,hap⟩,hB'⟩:=hB
   have o:k∈Region.ready md ops listed:=by simpa using hr
   obtain⟨v,⟨H,L⟩,J⟩:=h
   have i:=qcV (d:=d) U hkn T
   obtain⟨E,D,N⟩:=Oper.apart_spec (qeM hx i hap)
   have C:∀w,S w->(execOp (a.put ox.dst (ptrTo b)).eval (l.getD k d)).run P w=.ok (.value v) w:=fun w hw=>by
    rw[execOp_put (l.getD k d) (fun cs b=>Region.noSelect_spec R k _ cs b i) a ox.dst (ptrTo b) E]
    exact L w hw
   rw[List.length_cons,show r.length+1+O.length=(r.length+O.length)+1 by omega]
   refine qbR i (Region.noSelect_spec R) Z X T hkn hks (fun listed' a' w' hL=>seqB_ready hL.1) (fun c a w=>V c a _ v w) S (.inr ⟨fun _ h=>h,.inl hw⟩) _ listed _ W inv (Region.free_spec i hf) o (.inl ⟨qaX H _,C⟩) hS (fun _=>hS) ?_
   rw[Act.put_comm a (ptrTo b) v D]
   exact qdX U R Z X T V hx O r _ F _ w W b (inv.set o hkn) hB' (by rwa [qaQ hks]) J hW hS hlo hF hb
 | (1,k) :: r,listed,F,a,w,W,b,inv,hB,hls,h,hW,hS,hlo,hF,hb => by
   simp only[Region.mixXt,Bool.and_eq_true,decide_eq_true_eq] at hB
   obtain⟨⟨⟨⟨⟨hr,hf⟩,hkn⟩,hks⟩,hap⟩,hB'⟩:=hB
   have o:k∈Region.ready md ops listed:=by simpa using hr
   obtain⟨v,⟨H,L⟩,J⟩:=h
   have i:=qcV (d:=d) U hkn T
   obtain⟨E,D,N⟩:=Oper.apart_spec (qeM hx i hap)
   have C:∀w,True->(execOp (a.put ox.dst (ptrTo b)).eval (l.getD k d)).run P w=.ok (.value v) w:=fun w _=>by
    rw[execOp_put (l.getD k d) (fun cs b=>Region.noSelect_spec R k _ cs b i) a ox.dst (ptrTo b) E]
    exact L w
   rw[List.length_cons,show r.length+1+O.length=(r.length+O.length)+1 by omega]
   refine qbR i (Region.noSelect_spec R) Z X T hkn hks (fun listed' a' w' hL=>seqB_ready hL.1) (fun c a w=>V c a _ v w) (fun _=>True) (.inl fun _=>trivial) _ listed _ W inv (Region.free_spec i hf) o (.inl ⟨qaX H _,C⟩) trivial (fun _=>hS) ?_
   rw[Act.put_comm a (ptrTo b) v D]
   exact qdX U R Z X T V hx O r _ F _ w W b (inv.set o hkn) hB' (by rwa [qaQ hks]) J hW hS hlo hF hb
 | (t + 2,k) :: r,listed,F,a,w,W,b,inv,hB,hls,h,hW,hS,hlo,hF,hb => by
   simp only[Region.mixXt,Bool.and_eq_true,decide_eq_true_eq] at hB
   obtain⟨⟨⟨⟨hr,hkn⟩,hks⟩,hap⟩,hB'⟩:=hB
   obtain⟨H,B⟩:=h
   have i:=qcV (d:=d) U hkn T
   obtain⟨E,D,N⟩:=Oper.apart_spec (qeM hx i hap)
   rw[List.length_cons,show r.length+1+O.length=(r.length+O.length)+1 by omega]
   refine⟨fun h0=>(by rw[hr] at h0;cases h0),fun j hj=>?_⟩
   have I:=hj
   rw[hr] at hj
   have K:j=k:=by simpa using hj
   subst K
   refine⟨hkn,?_⟩
   unfold wpOp
   simp only[i]
   rw[if_pos (qaX H _)]
   refine .inl ?_
   unfold Oper.wp
   rw[execOp_put (l.getD j d) (fun cs b=>Region.noSelect_spec R j _ cs b i) a ox.dst (ptrTo b) E]
   rcases B W hW hS with⟨f,M,p,A⟩|⟨u,w',p,m,q,hr⟩
   . rw [p]
     exact A.mono fun e w' ⟨u,he,m,q,hr⟩=>by
      subst he
      have z:=(Array.getElem?_eq_some_iff.1 hb).1
      refine⟨fun _=>m,?_⟩
      show wpAnyHF P md ops Q S n s _ _ _ ((a.put ox.dst (ptrTo b)).put (l.getD j d).dst u) w'
      rw[Act.put_comm a (ptrTo b) u D]
      exact qdX U R Z X T V hx O r _ _ _ w' w' b (inv.set I hkn) hB' (by rwa [qaQ hks]) hr zV m hlo (fun h=>h.elim hF (fun h=>U0)) ((q.block b z).trans hb)
   . rw[p]
     have z:=(Array.getElem?_eq_some_iff.1 hb).1
     refine⟨fun _=>m,?_⟩
     show wpAnyHF P md ops Q S n s _ _ _ ((a.put ox.dst (ptrTo b)).put (l.getD j d).dst u) w'
     rw[Act.put_comm a (ptrTo b) u D]
     exact qdX U R Z X T V hx O r _ _ _ w' w' b (inv.set I hkn) hB' (by rwa [qaQ hks]) hr zV m hlo (fun h=>h.elim hF (fun h=>U0)) ((q.block b z).trans hb)
theorem qdV{l:List Oper}{d:Oper}{Lq:Act->Wo->Prop}(hl:ops=l.toArray)(T:Region.noSelect ops=true)(hs:Region.sinkB md ops n=true)(hc:Region.chainB md ops n=true)(hn:n<ops.size)(hQ:∀ c (a:Act) (dst:Option Tmp) v w,Q (.panic c) (a.put dst v) w->Q (.panic c) a w)(hx:ops[x]?=some ox)(V:x<n)(Z:x≠s)(W:ox.guard=none)(X:∀ (a:Act)(w:Wo),(execOp a.eval ox).run P w=.ok (.value (ptrTo w.heap.size)) (w.alloc ob))(U:∀ w,S w->S (w.alloc ob))(R:List (Nat × Nat)):
 ∀(ord:List (Nat × Nat))(listed:Array Bool)(F:Nat->Prop)(a:Act)(w:Wo),HeadInv md ops n listed->Region.mixXf md ops n g s x R ord listed=true->listed.getD s false=false->wpX P S ob ox.dst lo Lq (R.map fun y=>(y.1,l.getD y.2 d)) (ord.map fun y=>(y.1,l.getD y.2 d)) F a w->S w->lo<=w.heap.size->(∀b,F b->b<w.heap.size)->
  wpAnyHF P md ops Q S n s (fun listed' a' w'=>Region.seqB md ops g n listed'=true/\Lq a' w') (ord.length+R.length+1) listed a w
 |[],listed,F,a,w,inv,hB,hls,h,hS,hlo,hF=>by
   simp only[Region.mixXf,Bool.and_eq_true,decide_eq_true_eq] at hB
   obtain⟨hr,hB'⟩:=hB
   refine⟨fun h0=>(by rw[hr] at h0;cases h0),fun j hj=>?_⟩
   have q:=hj
   rw[hr] at hj
   have z:j=x:=by simpa using hj
   subst z
   refine⟨V,?_⟩
   unfold wpOp
   simp only[hx]
   rw[if_pos (qaX W _)]
   refine .inl ?_
   unfold Oper.wp
   rw[X]
   exact⟨fun _=>U w hS,qdX (ob:=ob) hl T hs hc hn hQ hx R [] _ F a w (w.alloc ob) w.heap.size (inv.set q V) hB' (by rwa [qaQ Z]) h (zV.alloc zn _) (U w hS) hlo (fun h=>by have:=hF _ h;omega) (heap_alloc_new _ _)⟩
 |(0,k):: r,listed,F,a,w,inv,hB,hls,h,hS,hlo,hF=>by
   simp only[Region.mixXf,Bool.and_eq_true,decide_eq_true_eq] at hB
   obtain⟨⟨⟨⟨⟨hr,K⟩,i⟩,m⟩,O⟩,hB'⟩:=hB
   have A:k∈Region.ready md ops listed:=by simpa using hr
   obtain⟨v,⟨H,M⟩,J⟩:=h
   have D:=qcV (d:=d) hl i hn
   rw[List.length_cons,show r.length+1+R.length+1=(r.length+R.length+1)+1 by omega]
   refine qbR D (Region.noSelect_spec T) hs hc hn i m (fun listed' a' w' hL=>seqB_ready hL.1) (fun c a w=>hQ c a _ v w) S (.inr ⟨fun _ h=>h,.inl O⟩) _ listed _ w inv (Region.free_spec D K) A (.inl ⟨qaX H _,M⟩) hS (fun _=>hS) ?_
   exact qdV hl T hs hc hn hQ hx V Z W X U R r _ F _ w (inv.set A i) hB' (by rwa [qaQ m]) J hS hlo hF
 |(1,k):: r,listed,F,a,w,inv,hB,hls,h,hS,hlo,hF=>by
   simp only[Region.mixXf,Bool.and_eq_true,decide_eq_true_eq] at hB
   obtain⟨⟨⟨⟨hr,K⟩,i⟩,m⟩,hB'⟩:=hB
   have A:k∈Region.ready md ops listed:=by simpa using hr
   obtain⟨v,⟨H,M⟩,J⟩:=h
   have D:=qcV (d:=d) hl i hn
   rw[List.length_cons,show r.length+1+R.length+1=(r.length+R.length+1)+1 by omega]
   refine qbR D (Region.noSelect_spec T) hs hc hn i m (fun listed' a' w' hL=>seqB_ready hL.1) (fun c a w=>hQ c a _ v w) (fun _=>True) (.inl fun _=>trivial) _ listed _ w inv (Region.free_spec D K) A (.inl ⟨qaX H _,fun w _=>M w⟩) trivial (fun _=>hS) ?_
   exact qdV hl T hs hc hn hQ hx V Z W X U R r _ F _ w (inv.set A i) hB' (by rwa [qaQ m]) J hS hlo hF
 | (t + 2,k) :: r,listed,F,a,w,inv,hB,hls,h,hS,hlo,hF => by
   simp only[Region.mixXf,Bool.and_eq_true,decide_eq_true_eq] at hB
   obtain⟨⟨⟨⟨hr,i⟩,m⟩,hB'⟩,I⟩:=hB
   have D:=qcV (d:=d) hl i hn
   rw[List.length_cons,show r.length+1+R.length+1=(r.length+R.length+1)+1 by omega]
   refine⟨fun h0=>(by rw[hr] at h0;cases h0),fun j hj=>?_⟩
   have q:=hj
   rw[hr] at hj
   rcases List.mem_cons.1 hj with z|z
   . subst z
     refine⟨i,?_⟩
     obtain⟨H,E⟩:=h
     unfold wpOp
     simp only[D]
     rw[if_pos (qaX H _)]
     refine .inl ?_
     unfold Oper.wp
     rcases E w zV hS with⟨f,N,B,C⟩|⟨u,w',B,o,p,hr⟩
     . rw [B]
       exact C.mono fun e w' ⟨u,he,o,p,hr⟩=>by
        subst he
        exact⟨fun _=>o,qdV hl T hs hc hn hQ hx V Z W X U R r _ _ _ w' (inv.set q i) hB' (by rwa [qaQ m]) hr o (Nat.le_trans hlo p.size) (fun b hb=>hb.elim (fun h=>Nat.lt_of_lt_of_le (hF b h) p.size) (fun h=>h.2))⟩
     . rw[B]
       exact⟨fun _=>o,qdV hl T hs hc hn hQ hx V Z W X U R r _ _ _ w' (inv.set q i) hB' (by rwa [qaQ m]) hr o (Nat.le_trans hlo p.size) (fun b hb=>hb.elim (fun h=>Nat.lt_of_lt_of_le (hF b h) p.size) (fun h=>h.2))⟩
   . have L : j = x:=by simpa using z
     subst L
     refine⟨V,?_⟩
     unfold wpOp
     simp only[hx]
     rw[if_pos (qaX W _)]
     refine .inl ?_
     unfold Oper.wp
     rw[X]
     refine⟨fun _=>U w hS,?_⟩
     have:=qdX (ob:=ob) (Q:=Q) (g:=g) hl T hs hc hn hQ hx R ((t+2,k):: r) _ F a w (w.alloc ob) w.heap.size (inv.set q V) I (by rwa [qaQ Z]) h (zV.alloc zn _) (U w hS) hlo (fun h=>by have:=hF _ h;omega) (heap_alloc_new _ _)
     rw[List.length_cons,show r.length+1+R.length=r.length+R.length+1 by omega] at this
     exact this
def Region.mixXTailB(md:Region.Mode)(ops:Array Oper)(n s x:Nat)(ord ord2:List (Nat × Nat)):Bool:=
 Region.noSelect ops && decide (n<ops.size) && Region.sinkB md ops n && Region.chainB md ops n && decide (ord.length+ord2.length+1=n) && decide (x<n) && decide (x≠s) && Region.mixXf md ops n (ops.size-n) s x ord2 ord (Array.replicate ops.size false)
theorem wp_region_mixx{M:Nat}{a:Act}{w:Wo}{l:List Oper}(n s x:Nat)(S:Wo->Prop)(z u:List (Nat × Nat))(d:Oper)(ox:Oper)(ob:Obj)(J:P.follows .mixedOrders=true)(D:Region.mixXTailB .any l.toArray n s x z u=true)(E:∀c (a:Act) (dst:Option Tmp) v w,Q (.panic c) (a.put dst v) w->Q (.panic c) a w)(L:l.toArray[x]?=some ox)(B:ox.guard=none)(C:∀(a:Act)(w:Wo),(execOp a.eval ox).run P w=.ok (.value (ptrTo w.heap.size)) (w.alloc ob))(A:∀w,S w->S (w.alloc ob))(I:S w.drew)(h:wpX P S ob ox.dst w.heap.size (wpList P l.toArray Q (l.drop n)) (u.map fun y=>(y.1,l.getD y.2 d)) (z.map fun y=>(y.1,l.getD y.2 d)) (fun _=>False) a w.drew):(Code.region M l.toArray true).wp P Q a w:=by
 simp only[Region.mixXTailB,Bool.and_eq_true,decide_eq_true_eq] at D;obtain⟨⟨⟨⟨⟨⟨⟨f,q⟩,r⟩,p⟩,k⟩,m⟩,o⟩,b⟩:=D
 have i:HeadInv .any l.toArray n (Array.replicate l.toArray.size false):=
  ⟨U2,fun j oj _ hl=>(by rw[getD_replicate_false] at hl;cases hl),fun t _ ht=>getD_in (by simpa using ht) (getD_replicate_false _ _)⟩
 have H:=qdV (P:=P) (Q:=Q) (md:=.any) (g:=l.toArray.size-n) rfl f r p q E L m o B C A u z _ (fun _=>False) a w.drew i b (getD_replicate_false _ _) h I zn (fun _ h=>h.elim);refine wp_region_any J ?_
 have:=qeK (g:=l.toArray.size-n) (fun listed' a' w' hL=>by
  have:=wpAny_of_seq (P:=P) (md:=.any) (Q':=Q) (l.drop n) n listed' a' w' (fun j=>by simp[List.getElem?_drop]) (by simpa using hL.1) hL.2
  simpa using this) _ _ a w.drew H
 rw[k,show n+(l.toArray.size-n)=l.toArray.size by omega] at this;exact this
end
end Go.Proofs.YtocbdafcolbfeaaGreat
