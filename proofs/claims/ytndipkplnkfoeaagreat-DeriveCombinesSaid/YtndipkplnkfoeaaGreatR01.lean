/- Parts of the proof. -/
import Derived.Lib.Hide
import Derived.Test.YtndipkplnkfoeaaGreatChecked
import Derived.Deep.WholeRow
import Derived.WalkLawsBesides
import Derived.WalkSpells
import Derived.Deep.AppendLies
import Derived.StillTailTactics
import Derived.Laws.CopyOwn
import Derived.Deep.RegionHeld3
import Derived.Deep.DeepCutAuto
import Derived.BigQuiet
set_option maxRecDepth 100000
set_option maxHeartbeats 8000000
namespace Go.Proofs.YtndipkplnkfoeaaGreat
open Go Go.RowKit
abbrev Y(x:Int):Value:=.int .i64 x
abbrev zN(x:Nat):Value:=.int .i64 (x:Int)
abbrev zL(a:Option Addr)(n c:Nat):Value:=.slice a n c
abbrev zS(b:Nat)(n c:Nat):Value:=.slice (some ⟨b,0,none⟩) n c
abbrev zP(b:Nat):Value:=.pointer (some ⟨b,0,none⟩)
abbrev zA(b o:Nat):Addr:=⟨b,o,none⟩
abbrev zO(b:Nat):Option Addr:=some ⟨b,0,none⟩
abbrev zC:=Calls Tryz.prog
theorem zH{P:Prop}(h:P):Hid P:=Lib.hid h
abbrev Ca(x0:Int)(x1:Int)(a2:Option Addr)(l2 c2:Nat)(x3:Int)(a4:Option Addr)(l4 c4:Nat):List Value:=[Y x0,Y x1,.slice a2 l2 c2,Y x3,.slice a4 l4 c4]
abbrev Cb:Array Value:=#[Y 0,Y 0,.slice none 0 0,Y 0,.slice none 0 0]
abbrev Cc:Obj:=.cells #[Y 0,Y 0,.slice none 0 0,Y 0,.slice none 0 0] 32
abbrev Cd:List Value:=[Y 0,Y 0,.slice none 0 0,Y 0,.slice none 0 0]
abbrev Ce(x0:Int)(x1:Int)(a2:Option Addr)(l2 c2:Nat):Obj:=.cells #[Y x0,Y x1,.slice a2 l2 c2] 29
abbrev Cf(x0:Int)(x1:Int)(a2:Option Addr)(l2 c2:Nat)(x3:Int)(a4:Option Addr)(l4 c4:Nat):Obj:=.cells #[Y x0,Y x1,.slice a2 l2 c2,Y x3,.slice a4 l4 c4] 32
abbrev Ch(x0:Int)(x1:Int)(a2:Option Addr)(l2 c2:Nat):Value:=.agg #[Y x0,Y x1,.slice a2 l2 c2]
abbrev Ci(x0:Int)(x1:Int)(a2:Option Addr)(l2 c2:Nat):List Value:=[Y x0,Y x1,.slice a2 l2 c2]
abbrev Cj(x0:Int)(x1:Int)(x2:Int)(x4:Int)(a5 l5 c5:Nat)(x6:Int):Obj:=.cells #[Y x0,Y x1,Y x2,.slice none 0 0,Y x4,.slice (some ⟨a5,0,none⟩) l5 c5,Y x6,.slice none 0 0,.slice none 0 0,Y 0,Y 0,.slice none 0 0,Y 0,Y 0,Y 0,Y 0,Y 0,.slice none 0 0,.slice none 0 0,.slice none 0 0,.slice none 0 0,Y 0,.slice none 0 0] 40
abbrev Ck(x0:Int)(x1:Int)(a2:Option Addr)(l2 c2:Nat)(x3:Int)(a4:Option Addr)(l4 c4:Nat):Value:=.agg #[Y x0,Y x1,.slice a2 l2 c2,Y x3,.slice a4 l4 c4]
abbrev Cl(x0:Int)(x1:Int)(a2:Option Addr)(l2 c2:Nat)(x3:Int)(a4:Option Addr)(l4 c4:Nat):Array Value:=#[Y x0,Y x1,.slice a2 l2 c2,Y x3,.slice a4 l4 c4]
abbrev Cm(x0:Int)(x1:Int)(x2:Int)(x4:Int)(a5 l5 c5:Nat)(x6:Int)(x23:Int)(x24:Int)(x25:Int)(x27:Int)(a28 l28 c28:Nat)(x29:Int):Obj:=.cells #[Y x0,Y x1,Y x2,.slice none 0 0,Y x4,.slice (some ⟨a5,0,none⟩) l5 c5,Y x6,.slice none 0 0,.slice none 0 0,Y 0,Y 0,.slice none 0 0,Y 0,Y 0,Y 0,Y 0,Y 0,.slice none 0 0,.slice none 0 0,.slice none 0 0,.slice none 0 0,Y 0,.slice none 0 0,Y x23,Y x24,Y x25,.slice none 0 0,Y x27,.slice (some ⟨a28,0,none⟩) l28 c28,Y x29,.slice none 0 0,.slice none 0 0,Y 0,Y 0,.slice none 0 0,Y 0,Y 0,Y 0,Y 0,Y 0,.slice none 0 0,.slice none 0 0,.slice none 0 0,.slice none 0 0,Y 0,.slice none 0 0] 40
abbrev Cn(a0:Nat)(x1:Int)(x2:Int):Array Value:=#[.pointer (some ⟨a0,0,none⟩),Y x1,Y x2]
abbrev Co(a0:Nat)(a1:Nat)(a2:Nat)(a3:Nat)(a4:Nat):Array Value:=#[.pointer (some ⟨a0,0,none⟩),.pointer (some ⟨a1,0,none⟩),.pointer (some ⟨a2,0,none⟩),.pointer (some ⟨a3,0,none⟩),.pointer (some ⟨a4,0,none⟩)]
abbrev Cp(x0:Int)(a1:Option Addr)(l1 c1:Nat):Obj:=.cells #[Y x0,.slice a1 l1 c1] 54
abbrev Cq(x0:Int)(x1:Int)(x2:Int)(x4:Int)(a5 l5 c5:Nat)(x6:Int):List Value:=[Y x0,Y x1,Y x2,.slice none 0 0,Y x4,.slice (some ⟨a5,0,none⟩) l5 c5,Y x6,.slice none 0 0,.slice none 0 0,Y 0,Y 0,.slice none 0 0,Y 0,Y 0,Y 0,Y 0,Y 0,.slice none 0 0,.slice none 0 0,.slice none 0 0,.slice none 0 0,Y 0,.slice none 0 0]
abbrev Cr(x0:Int)(x1:Int)(x3:Int)(a4 l4 c4:Nat):List Value:=[Y x0,Y x1,.slice none 0 0,Y x3,.slice (some ⟨a4,0,none⟩) l4 c4]
abbrev Cs(x0:Int)(x1:Int)(a2:Option Addr)(l2 c2:Nat)(x3:Int)(a4:Option Addr)(l4 c4:Nat)(x5:Int)(x6:Int)(a7:Option Addr)(l7 c7:Nat)(x8:Int)(a9:Option Addr)(l9 c9:Nat):Obj:=.cells #[Y x0,Y x1,.slice a2 l2 c2,Y x3,.slice a4 l4 c4,Y x5,Y x6,.slice a7 l7 c7,Y x8,.slice a9 l9 c9] 32
abbrev Ct(a0:Option Addr):Obj:=.cells #[.pointer a0,Y 0,.slice none 0 0,.slice none 0 0] 122
abbrev Cu(a0:Nat)(x1:Int)(a2:Option Addr)(l2 c2:Nat)(a3:Option Addr)(l3 c3:Nat):Array Value:=#[.pointer (some ⟨a0,0,none⟩),Y x1,.slice a2 l2 c2,.slice a3 l3 c3]
abbrev Cv(a0:Nat)(x1:Int)(a2:Option Addr)(l2 c2:Nat)(a3:Option Addr)(l3 c3:Nat):List Value:=[.pointer (some ⟨a0,0,none⟩),Y x1,.slice a2 l2 c2,.slice a3 l3 c3]
abbrev Cw(x0:Int)(x1:Int)(a2 l2 c2:Nat)(x3:Int)(a4 l4 c4:Nat)(a5 l5 c5:Nat):Obj:=.cells #[Y x0,Y x1,.slice (some ⟨a2,0,none⟩) l2 c2,Y x3,.slice (some ⟨a4,0,none⟩) l4 c4,.slice (some ⟨a5,0,none⟩) l5 c5] 171
abbrev Cx(a0:Nat)(x1:Int)(a2:Option Addr)(l2 c2:Nat)(a3:Option Addr)(l3 c3:Nat):Obj:=.cells #[.pointer (some ⟨a0,0,none⟩),Y x1,.slice a2 l2 c2,.slice a3 l3 c3] 122
abbrev Cy(x0:Int)(a1:Option Addr)(l1 c1:Nat):Value:=.agg #[Y x0,.slice a1 l1 c1]
abbrev Cz:Obj:=.cells #[Y 0,Y 0,.slice none 0 0] 29
abbrev Da(x0:Int)(x1:Int)(x3:Int)(a4 l4 c4:Nat):Value:=.agg #[Y x0,Y x1,.slice none 0 0,Y x3,.slice (some ⟨a4,0,none⟩) l4 c4]
abbrev Db(a0:Nat)(x1:Int):Array Value:=#[.pointer (some ⟨a0,0,none⟩),Y x1]
abbrev Dc(x0:Int)(a1 l1 c1:Nat):Array Value:=#[Y x0,.slice (some ⟨a1,0,none⟩) l1 c1]
abbrev Dd(a0:Option Addr):Array Value:=#[.pointer a0,Y 0,.slice none 0 0,.slice none 0 0]
abbrev De(x0:Int)(a1:Option Addr)(l1 c1:Nat):List Value:=[Y x0,.slice a1 l1 c1]
abbrev Df(x0:Int)(x1:Int)(a2:Option Addr)(l2 c2:Nat)(x3:Int)(a4 l4 c4:Nat)(a5 l5 c5:Nat):Obj:=.cells #[Y x0,Y x1,.slice a2 l2 c2,Y x3,.slice (some ⟨a4,0,none⟩) l4 c4,.slice (some ⟨a5,0,none⟩) l5 c5] 171
abbrev Dg(x0:Int)(a1 l1 c1:Nat):Obj:=.cells #[Y x0,.slice (some ⟨a1,0,none⟩) l1 c1] 54
abbrev Dh(a0:Option Addr):List Value:=[.pointer a0,Y 0,.slice none 0 0,.slice none 0 0]
abbrev Di(x0:Int)(x1:Int)(a2:Option Addr)(l2 c2:Nat)(x3:Int)(a4:Option Addr)(l4 c4:Nat)(x5:Int)(x6:Int)(a7:Option Addr)(l7 c7:Nat)(x8:Int)(a9:Option Addr)(l9 c9:Nat)(x10:Int)(x11:Int)(a12:Option Addr)(l12 c12:Nat)(x13:Int)(a14:Option Addr)(l14 c14:Nat):Obj:=.cells #[Y x0,Y x1,.slice a2 l2 c2,Y x3,.slice a4 l4 c4,Y x5,Y x6,.slice a7 l7 c7,Y x8,.slice a9 l9 c9,Y x10,Y x11,.slice a12 l12 c12,Y x13,.slice a14 l14 c14] 32
abbrev Dj:Obj:=.cells #[Y 0,.slice none 0 0] 54
abbrev Dk:Array Value:=#[Y 0,.slice none 0 0]
abbrev Dl(x0:Int)(x1:Int):List Value:=[Y x0,Y x1,.slice none 0 0]
abbrev Dm(a0:Nat):Array Value:=#[.pointer (some ⟨a0,0,none⟩),Y 0]
abbrev Dn(x0:Int)(x1:Int)(x3:Int)(a4 l4 c4:Nat):Obj:=.cells #[Y x0,Y x1,.slice none 0 0,Y x3,.slice (some ⟨a4,0,none⟩) l4 c4] 32
theorem U8{P:Prop}(h:P:=by show _=_;rw[Int.natCast_add];exact IntWalk.i64_in _ (by omega)):P:=h
theorem df{P:Prop}(h:P:=by first|rfl|rw[World.drewN_drewN]):P:=h
theorem U6{P:Prop}(h:P:=by first|assumption|(simp;omega)):P:=h
theorem V2{P:Prop}(h:P:=by simp[Value.ownBlock]<;>omega):P:=h
theorem V0{P:Prop}(h:P:=by simp[Value.ownBlock];omega):P:=h
theorem U4{P:Prop}(h:P:=by first|rfl|simp_all):P:=h
theorem U9{P:Prop}(h:P:=by rw[World.drewN_drewN]):P:=h
theorem sc{P:Prop}(h:P:=by simp[Value.oneCell']):P:=h
theorem U3{P:Prop}(h:P:=by unfold maxLen;omega):P:=h
theorem U5{P:Prop}(h:P:=by show _<=_;omega):P:=h
theorem U7{P:Prop}(h:P:=by show _=_;simp):P:=h
theorem dk{P:Prop}(h:P:=by decide +kernel):P:=h
theorem U1{P:Prop}(h:P:=by kernel_rfl):P:=h
theorem so{P:Prop}(h:P:=by simp;omega):P:=h
theorem am{P:Prop}(h:P:=by assumption):P:=h
theorem gn{P:Prop}(h:P:=by go_num):P:=h
theorem dc{P:Prop}(h:P:=by decide):P:=h
theorem U0{P:Prop}(h:P:=by omega):P:=h
theorem U2{P:Prop}(h:P:=by simp):P:=h
theorem mE{P:Prop}(h:P:=by simp[intOf];omega):P:=h
end Go.Proofs.YtndipkplnkfoeaaGreat
namespace Go.Proofs.YtndipkplnkfoeaaGreat
open Go.RowKit
section
variable {P:Program}
theorem qaH{ops:Array Oper}{rest:List Oper}{o:Oper}{a:Act}{Q:Exit->Act->World->Prop}(f:o.guard=none)(d:TypeId)(x y:Operand)(j:o.op=.store d x y)(w:World)(c b:Array Value)(l:a.eval x=zP w.heap.size)(m:a.eval y=.agg b)(i:(P.info? d).map (·.size)=some b.size)(k:c.size=b.size)(g:b.all (·.oneCell')=true)(h:wpList P ops Q rest (a.put o.dst undef) (w.alloc (.cells b d))):wpList P ops Q (o :: rest) a (w.alloc (.cells c d)):=
 wpList_plain f fun _ hK=>by
  unfold Oper.wp execOp
  simp only[j,l,m,Sem.run_bind,run_storeAt_new w d c b i k g,Result.andThen_ok,Sem.run_pure]
  exact hK _ _ h
end
theorem qaG{k:IntKind}{a b:Int}(h:a=b):Ending.returned (.int k a)=.returned (.int k b):=by rw[h]
theorem qaN{a b:Bool}(h:a=b):Ending.returned (.bool a)=.returned (.bool b):=by rw[h]
theorem qaB{B:Nat}{a w:World}(h:Below B a w)(n:Nat):Below B a (w.drewN n):=⟨h.os,h.tape,h.output,h.size,h.block⟩
theorem qaR{B:Nat}{a w:World}(h:Below B a w){g:Nat}(b:B<=g)(cs:Array Value):Below B a (w.setRow g cs):=
 h.trans ⟨rfl,rfl,rfl,U2,fun k hk=>setRow_other w g k cs U0⟩
end Go.Proofs.YtndipkplnkfoeaaGreat
namespace Go.Proofs.YtndipkplnkfoeaaGreat.Pln
abbrev Vec:=Nat->Int
def sh(m:Nat)(md:Vec)(v:Vec):Vec:=fun j=>if j<m then(if j=0 then 0 else v (j-1))-v (m-1)*md j else 0
def shN(m:Nat)(md:Vec):Nat->Vec->Vec
 |0,v=>v
 |k+1,v=>sh m md (shN m md k v)
def pol(m:Nat)(md:Vec)(b:Vec):Nat->Vec->Vec
 |0,_=>fun _=>0
 |k+1,a=>fun j=>b k*shN m md k a j+pol m md b k a j
def un:Vec:=fun j=>if j=0 then 1 else 0
def Supp(m:Nat)(a:Vec):Prop:=∀j,m<=j->a j=0
section
variable (m:Nat) (md:Vec)
theorem sh_lin(a:Int)(u v:Vec):sh m md (fun j=>a*u j+v j)=fun j=>a*sh m md u j+sh m md v j:=by funext j;unfold sh;by_cases h:j<m<;>by_cases b:j=0<;>simp only[h,b,if_true,if_false]<;>grind
theorem sh_zero:sh m md (fun _=>0)=fun _=>0:=by funext j;unfold sh;by_cases h:j<m<;>by_cases b:j=0<;>simp[h,b]
theorem qdN(a:Int)(u v:Vec):∀k,shN m md k (fun j=>a*u j+v j)=fun j=>a*shN m md k u j+shN m md k v j
 |0=>rfl
 |k+1=>by show sh m md (shN m md k _)=_;rw[qdN a u v k,sh_lin];rfl
theorem qeA:∀k,shN m md k (fun _=>0)=fun _=>0
 |0=>rfl
 |k+1=>by show sh m md (shN m md k _)=_;rw[qeA k,sh_zero]
theorem shN_succ(v:Vec):∀k,shN m md (k+1) v=shN m md k (sh m md v)
 |0=>rfl
 |k+1=>by show sh m md (shN m md (k+1) v)=_;rw[shN_succ v k];rfl
theorem shN_add(v:Vec)(i:Nat):∀k,shN m md (k+i) v=shN m md k (shN m md i v)
 |0=>by rw[Nat.zero_add];rfl
 |k+1=>by rw[Nat.add_right_comm];show sh m md (shN m md (k+i) v)=_;rw[shN_add v i k];rfl
theorem pol_lin(b:Vec)(a:Int)(u v:Vec):∀ k,pol m md b k (fun j=>a*u j+v j)=fun j=>a*pol m md b k u j+pol m md b k v j
 |0=>by funext j;simp[pol]
 |k + 1=>by
   funext j
   simp only[pol,pol_lin b a u v k,qdN m md a u v k]
   grind
theorem pol_zero(b:Vec):∀k,pol m md b k (fun _=>0)=fun _=>0
 |0=>rfl
 |k+1=>by funext j;simp[pol,pol_zero b k,qeA m md k]
theorem qdZ(a:Int)(b c:Vec)(u:Vec):∀k,pol m md (fun j=>a*b j+c j) k u=fun j=>a*pol m md b k u j+pol m md c k u j
 |0=>by funext j;simp[pol]
 |k+1=>by funext j;simp only[pol,qdZ a b c u k];grind
theorem pol_sh(b:Vec)(a:Vec):∀ k,pol m md b k (sh m md a)=sh m md (pol m md b k a)
 |0=>by funext j;simp[pol,sh_zero]
 |k + 1=>by
   show(fun j=>b k*shN m md k (sh m md a) j+pol m md b k (sh m md a) j)=sh m md (fun j=>b k*shN m md k a j+pol m md b k a j)
   rw[sh_lin,pol_sh b a k,<- shN_succ]
   rfl
theorem pol_shN(b:Vec)(a:Vec)(k:Nat):∀i,pol m md b k (shN m md i a)=shN m md i (pol m md b k a)
 |0=>rfl
 |i+1=>by show pol m md b k (sh m md (shN m md i a))=sh m md (shN m md i (pol m md b k a));rw[pol_sh,pol_shN b a k i]
theorem pol_comm(b c a:Vec)(l:Nat):∀ k,pol m md b k (pol m md c l a)=pol m md c l (pol m md b k a)
 |0=>by show(fun _=>0)=pol m md c l (fun _=>0);rw[pol_zero]
 |k + 1=>by
   show(fun j=>b k*shN m md k (pol m md c l a) j+pol m md b k (pol m md c l a) j)=pol m md c l (fun j=>b k*shN m md k a j+pol m md b k a j)
   rw[pol_lin,pol_comm b c a l k,pol_shN]
theorem pol_horner(b a:Vec):∀ k,pol m md b (k+1) a=fun j=>b 0*a j+sh m md (pol m md (fun i=>b (i+1)) k a) j
 |0=>by funext j;simp[pol,sh_zero,shN]
 |k + 1=>by
   have h:=pol_horner b a k
   funext j
   show b (k+1)*shN m md (k+1) a j+pol m md b (k+1) a j=_
   rw[h]
   show _=b 0*a j+sh m md (fun j=>b (k+1)*shN m md k a j+pol m md (fun i=>b (i+1)) k a j) j
   rw[sh_lin]
   show b (k+1)*sh m md (shN m md k a) j+_=_
   grind
theorem sh_supp(a:Vec):Supp m (sh m md a):=fun j hj=>by unfold sh;rw[if_neg U0]
theorem shN_supp{a:Vec}(h:Supp m a):∀k,Supp m (shN m md k a)
 |0=>h
 |_+1=>sh_supp m md _
theorem pol_supp{b a:Vec}(h:Supp m a):∀k,Supp m (pol m md b k a)
 |0=>fun _ _=>rfl
 |k+1=>fun j hj=>by simp[pol,pol_supp h k j hj,shN_supp m md h k j hj]
theorem shN_un:∀ i,i<m->shN m md i un=fun j=>if j=i then 1 else 0
 |0,_=>rfl
 | i + 1,h => by
   show sh m md (shN m md i un)=_
   rw[shN_un i U0]
   funext j
   unfold sh
   by_cases hj:j<m
   . have hmi : ¬ (m - 1 = i) := by omega
     simp only[if_pos hj,if_neg hmi]
     by_cases b:j=0
     . subst b;simp
     . have c : (j - 1 = i) ↔ (j = i + 1):=by omega
       simp[b,c]
   . rw[if_neg hj,if_neg U0]
theorem shN_un_top(f:0<m):shN m md m un=fun j=>if j<m then-md j else 0:=by
 obtain⟨n,rfl⟩:∃n,m=n+1:=⟨m-1,U0⟩;show sh (n+1) md (shN (n+1) md n un)=_;rw[shN_un (n+1) md n U0];funext j;unfold sh;by_cases b:j<n+1
 . rw[if_pos b,if_pos b];by_cases c:j=0
   . subst c;simp
   . (have d:¬(j-1=n):=by omega);simp[c,d]
 . rw[if_neg b,if_neg b]
theorem pol_un(b:Vec):∀ k,k<=m->pol m md b k un=fun j=>if j<k then b j else 0
 |0,_=>by funext j;simp[pol]
 | k + 1,h => by
   funext j
   simp only[pol,shN_un m md k U0,pol_un b k U0]
   by_cases h1:j=k
   . subst h1;simp
   . rw[if_neg h1]
     by_cases h2:j<k
     . rw[if_pos h2,if_pos U0];simp
     . rw[if_neg h2,if_neg U0];simp
theorem pol_id{b:Vec}(h:Supp m b):pol m md b m un=b:=by
 rw[pol_un m md b m (Nat.le_refl _)];funext j;by_cases c:j<m
 . rw[if_pos c]
 . rw[if_neg c,h j U0]
def mz(a b:Vec):Vec:=pol m md b m a
theorem mz_comm{a b:Vec}(c:Supp m a)(d:Supp m b):mz m md a b=mz m md b a:=by
 show pol m md b m a=pol m md a m b;conv=>lhs;rw[<- pol_id m md c]
 rw[pol_comm,pol_id m md d]
theorem mz_assoc{a b c:Vec}(f:Supp m a)(g:Supp m b):mz m md (mz m md a b) c=mz m md a (mz m md b c):=by have d:Supp m (mz m md b c):=pol_supp m md g m;rw[mz_comm m md f d];show pol m md c m (pol m md b m a)=pol m md a m (pol m md c m b);rw[pol_comm m md a c b m m];exact congrArg (pol m md c m) (mz_comm m md f g)
theorem mz_un{a:Vec}:mz m md un a=fun j=>if j<m then a j else 0:=pol_un m md a m (Nat.le_refl _)
end
def Cg(p:Int)(u v:Vec):Prop:=∃t:Vec,u=fun j=>p*t j+v j
theorem Cg.refl(p:Int)(u:Vec):Cg p u u:=⟨fun _=>0,by funext j;simp⟩
theorem Cg.of_eq{p:Int}{u v:Vec}(h:u=v):Cg p u v:=h ▸ Cg.refl p u
theorem Cg.symm{p:Int}{u v:Vec}(h:Cg p u v):Cg p v u:=by obtain⟨t,rfl⟩:=h;exact⟨fun j=>- t j,by funext j;grind⟩
theorem Cg.trans{p:Int}{u v w:Vec}(h:Cg p u v)(b:Cg p v w):Cg p u w:=by obtain⟨t,rfl⟩:=h;obtain⟨s,rfl⟩:=b;exact⟨fun j=>t j+s j,by funext j;grind⟩
theorem Cg.lin{p:Int}{u v b v':Vec}(a:Int)(h:Cg p u b)(c:Cg p v v'):Cg p (fun j=>a*u j+v j) (fun j=>a*b j+v' j):=by obtain⟨t,rfl⟩:=h;obtain⟨s,rfl⟩:=c;exact⟨fun j=>a*t j+s j,by funext j;grind⟩
theorem Cg.at_{p:Int}{u v:Vec}(h:Cg p u v)(j:Nat):u j % p=v j % p:=by obtain⟨t,rfl⟩:=h;show(p*t j+v j) % p=_;rw[Int.add_comm,Int.add_mul_emod_self_left]
theorem Cg.mk{p:Int}{u v:Vec}(h:∀j,u j % p=v j % p):Cg p u v:=by refine⟨fun j=>u j / p-v j / p,?_⟩;funext j;have b:=Int.mul_ediv_add_emod (u j) p;have c:=Int.mul_ediv_add_emod (v j) p;have:=h j;grind
theorem Cg.sh{p:Int}{u v:Vec}(m:Nat)(md:Vec)(h:Cg p u v):Cg p (sh m md u) (sh m md v):=by obtain⟨t,rfl⟩:=h;exact⟨Pln.sh m md t,by rw[sh_lin]⟩
theorem Cg.pol{p:Int}{u v:Vec}(m:Nat)(md b:Vec)(k:Nat)(h:Cg p u v):Cg p (pol m md b k u) (pol m md b k v):=by obtain⟨t,rfl⟩:=h;exact⟨Pln.pol m md b k t,by rw[pol_lin]⟩
theorem Cg.coef{p:Int}{b c:Vec}(m:Nat)(md a:Vec)(k:Nat)(h:Cg p b c):Cg p (Pln.pol m md b k a) (Pln.pol m md c k a):=by obtain⟨t,rfl⟩:=h;exact⟨Pln.pol m md t k a,by rw[qdZ]⟩
def digs(p:Nat):Nat->Nat->List Nat
 |0,_=>[]
 |m+1,x=>x % p :: digs p m (x / p)
def val(p:Nat):List Nat->Nat
 |[]=>0
 |d :: r=>d+p*val p r
def Dig(p m:Nat)(l:List Nat):Prop:=l.length=m/\∀d∈l,d<p
def F(l:List Nat):Vec:=fun j=>((l.getD j 0:Nat):Int)
theorem qaZ{l:List Nat}{j:Nat}(h:l.length<=j):l.getD j 0=0:=by simp[List.getD,List.getElem?_eq_none h]
theorem qaK(p:Nat):∀m x,(digs p m x).length=m
 |0,_=>rfl
 |m+1,x=>by simp[digs,qaK p m]
theorem qdU{p:Nat}(b:0<p):∀ m x,∀ d∈digs p m x,d<p
 |0,_=>by simp[digs]
 |m + 1,x=>by
   intro d hd
   simp only[digs,List.mem_cons] at hd
   rcases hd with rfl|hd
   . exact Nat.mod_lt _ b
   . exact qdU b m _ d hd
theorem qcB{p:Nat}(b:0<p)(m x:Nat):Dig p m (digs p m x):=⟨qaK p m x,qdU b m x⟩
theorem val_digs{p:Nat}(b:0<p):∀ m x,x<p ^ m->val p (digs p m x)=x
 |0,x,h=>by simp at h;simp[digs,val,h]
 |m + 1,x,h=>by
   have h1:x / p<p^m:=by rw[Nat.div_lt_iff_lt_mul b];rwa [Nat.pow_succ] at h
   simp only[digs,val,val_digs b m _ h1]
   exact Nat.mod_add_div x p
theorem qcR{p:Nat}(b:0<p):∀ l:List Nat,(∀ d∈l,d<p)->digs p l.length (val p l)=l
 |[],_=>rfl
 |d :: r,h=>by
   have hd:=h d (List.mem_cons_self ..)
   have:=qcR b r (fun y hy=>h y (List.mem_cons_of_mem _ hy))
   simp only[val,List.length_cons,digs]
   rw[Nat.add_mul_mod_self_left,Nat.mod_eq_of_lt hd,Nat.add_mul_div_left _ _ b,Nat.div_eq_of_lt hd,Nat.zero_add,this]
theorem val_lt{p:Nat}(c:0<p):∀ l:List Nat,(∀ d∈l,d<p)->val p l<p ^ l.length
 |[],_=>by simp[val]
 |d :: r,h=>by
   have hd:=h d (List.mem_cons_self ..)
   have:=val_lt c r (fun y hy=>h y (List.mem_cons_of_mem _ hy))
   simp only[val,List.length_cons,Nat.pow_succ]
   have b:p*(val p r+1)<=p*p^r.length:=Nat.mul_le_mul_left _ this
   rw[Nat.mul_comm (p^r.length) p]
   rw[Nat.mul_add,Nat.mul_one] at b
   omega
theorem qcP{m:Nat}{l:List Nat}(h:l.length<=m):Supp m (F l):=fun j hj=>by
 unfold F
 rw[qaZ U0]
 rfl
theorem F_inj{p:Nat}{l n:List Nat}(r:l.length=n.length)(h:∀d∈l,d<p)(o:∀d∈n,d<p)(q:Cg p (F l) (F n)):l=n:=by
 apply List.ext_getElem r;intro j b c;have:=q.at_ j;unfold F at this;have f:l.getD j 0=l[j]:=by simp[List.getD,b]
 have g:n.getD j 0=n[j]:=by simp[List.getD,c]
 rw[f,g] at this;have i:=h _ (List.getElem_mem b);have k:=o _ (List.getElem_mem c);rw[Int.emod_eq_of_lt U0 U0,Int.emod_eq_of_lt U0 U0] at this;omega
def stepM(p m:Nat)(md a:List Nat)(bi:Nat)(out:List Nat):List Nat:=
 (List.range m).map fun j=>((if j=0 then 0 else out.getD (j-1) 0)+(p-out.getD (m-1) 0)*md.getD j 0+bi*a.getD j 0) % p
def mulL(p m:Nat)(md a b:List Nat):List Nat:=b.foldr (fun bi out=>stepM p m md a bi out) (List.replicate m 0)
theorem stepM_dig{p m:Nat}(c:0<p)(md a:List Nat)(bi:Nat)(b:List Nat):Dig p m (stepM p m md a bi b):=by refine⟨by simp[stepM],?_⟩;intro d hd;unfold stepM at hd;obtain⟨j,_,rfl⟩:=List.mem_map.1 hd;exact Nat.mod_lt _ c
theorem getD_lt{p m:Nat}(c:0<p){l:List Nat}(h:Dig p m l)(j:Nat):l.getD j 0<p:=by
 by_cases b:j<l.length
 . (have:l.getD j 0=l[j]:=by simp[List.getD,b]);rw[this];exact h.2 _ (List.getElem_mem b)
 . rw[qaZ U0];exact c
theorem stepM_spec{p m:Nat}(n:0<p)(md a:List Nat)(o:a.length=m)(bi:Nat)(k:List Nat)(l:Dig p m k):
 Cg p (F (stepM p m md a bi k)) (fun j=>(bi:Int)*F a j+sh m (F md) (F k) j):=by
 apply Cg.mk;intro j;by_cases b:j<m
 . (have e:(stepM p m md a bi k).getD j 0=((if j=0 then 0 else k.getD (j-1) 0)+(p-k.getD (m-1) 0)*md.getD j 0+bi*a.getD j 0) % p:=by simp[stepM,List.getD,b]);have ht:=getD_lt n l (m-1);show((((stepM p m md a bi k).getD j 0:Nat):Int)) % p=_;rw[e];unfold sh F;rw[if_pos b];generalize k.getD (m-1) 0=t at *;generalize md.getD j 0=d at *;generalize a.getD j 0=y at *;(have i:(((if j=0 then 0 else k.getD (j-1) 0):Nat):Int)=(if j=0 then(0:Int) else((k.getD (j-1) 0:Nat):Int)):=by split<;>rfl);rw[<- i];generalize (if j=0 then 0 else k.getD (j-1) 0)=s at *;(have h:(((s+(p-t)*d+bi*y) % p:Nat):Int)=((bi:Int)*y+(s-(t:Int)*d)+p*d) % p:=by rw[Int.natCast_emod];congr 1;rw[Int.natCast_add,Int.natCast_add,Int.natCast_mul,Int.natCast_mul,Int.natCast_sub (Nat.le_of_lt ht)];grind);rw[h,Int.add_mul_emod_self_left,Int.emod_emod]
 . have c:F (stepM p m md a bi k) j=0:=qcP (m:=m) (by simp[stepM]) j U0;have f:F a j=0:=qcP (m:=m) U0 j U0;have g:sh m (F md) (F k) j=0:=sh_supp m _ _ j U0;rw[c,f,g];simp
theorem qaW{p m:Nat}(c:0<p)(md a b:List Nat):Dig p m (mulL p m md a b):=by
 cases b with
 |nil=>exact⟨by simp[mulL],fun d hd=>by simp[mulL] at hd;omega⟩
 |cons x r=>exact stepM_dig c md a x _
theorem F_zero(m:Nat):F (List.replicate m 0)=fun _=>0:=by funext j;unfold F;simp[List.getD,List.getElem?_replicate];split<;>simp
theorem F_cons(x:Nat)(r:List Nat)(i:Nat):F (x :: r) (i+1)=F r i:=by simp[F]
theorem mulL_spec'{p m:Nat}(d:0<p)(md a:List Nat)(f:a.length=m):∀ b:List Nat,Cg p (F (mulL p m md a b)) (pol m (F md) (F b) b.length (F a))
 |[]=>by
   apply Cg.of_eq
   show F (List.replicate m 0)=_
   rw[F_zero]
   rfl
 |x :: r=>by
   have ih:=mulL_spec' d md a f r
   have c:=stepM_spec d md a f x (mulL p m md a r) (qaW d md a r)
   refine Cg.trans c ?_
   rw[List.length_cons,pol_horner]
   have e:(fun i=>F (x :: r) (i+1))=F r:=by funext i;exact F_cons x r i
   rw[e]
   exact Cg.lin _ (Cg.refl _ _) (ih.sh m (F md))
theorem qbJ{p m:Nat}(f:0<p)(md a b:List Nat)(c:a.length=m)(d:b.length=m):Cg p (F (mulL p m md a b)) (mz m (F md) (F a) (F b)):=by have:=mulL_spec' f md a c b;rw[d] at this;exact this
theorem mz_cg{p:Int}{m:Nat}{md a c b d:Vec}(f:Cg p a c)(g:Cg p b d):Cg p (mz m md a b) (mz m md c d):=(f.pol m md b m).trans (g.coef m md c m)
theorem mulL_comm{p m:Nat}(f:0<p)(md a b:List Nat)(g:a.length=m)(h:b.length=m):mulL p m md a b=mulL p m md b a:=by have c:=qaW (m:=m) f md a b;have d:=qaW (m:=m) f md b a;refine F_inj (c.1.trans d.1.symm) c.2 d.2 ?_;refine(qbJ f md a b g h).trans (Cg.trans (Cg.of_eq ?_) (qbJ f md b a h g).symm);exact mz_comm m _ (qcP U0) (qcP U0)
theorem mulL_assoc{p m:Nat}(i:0<p)(md a b c:List Nat)(j:a.length=m)(k:b.length=m)(l:c.length=m):
 mulL p m md (mulL p m md a b) c=mulL p m md a (mulL p m md b c):=by have g:=qaW (m:=m) i md a b;have h:=qaW (m:=m) i md b c;have d:=qaW (m:=m) i md (mulL p m md a b) c;have f:=qaW (m:=m) i md a (mulL p m md b c);refine F_inj (d.1.trans f.1.symm) d.2 f.2 ?_;refine(qbJ i md _ c g.1 l).trans (Cg.trans (mz_cg (qbJ i md a b j k) (Cg.refl _ _)) ?_);refine Cg.trans (Cg.of_eq (mz_assoc m _ (qcP U0) (qcP U0))) ?_;exact(mz_cg (Cg.refl _ _) (qbJ i md b c k l).symm).trans (qbJ i md a _ j h.1).symm
def addAt(p:Nat)(c:List Nat)(k z:Nat):List Nat:=c.set k ((c.getD k 0+z) % p)
def convRow(p i ai:Nat)(b c:List Nat):Nat->List Nat
 |0=>c
 |j+1=>addAt p (convRow p i ai b c j) (i+j) (ai*b.getD j 0)
def conv(p m:Nat)(a b:List Nat):Nat->List Nat
 |0=>List.replicate (2*m-1) 0
 |i+1=>convRow p i (a.getD i 0) b (conv p m a b i) m
def redRow(p m:Nat)(md:List Nat)(i:Nat)(c:List Nat):Nat->List Nat
 |0=>c
 |j+1=>addAt p (redRow p m md i c j) (i-m+j) ((p-(redRow p m md i c j).getD i 0)*md.getD j 0)
def red(p m:Nat)(md c:List Nat):Nat->List Nat
 |0=>c
 |t+1=>redRow p m md (2*m-2-t) (red p m md c t) m
def refMulL(p m:Nat)(md a b:List Nat):List Nat:=(red p m md (conv p m a b m) (m-1)).take m
theorem addAt_dig{p n:Nat}(b:0<p){c:List Nat}(h:Dig p n c)(k z:Nat):Dig p n (addAt p c k z):=by
 refine⟨by simp[addAt,h.1],fun d hd=>?_⟩;rcases List.mem_or_eq_of_mem_set hd with h'|rfl
 . exact h.2 _ h'
 . exact Nat.mod_lt _ b
theorem F_addAt{p n:Nat}{c:List Nat}(d:c.length=n)(k z:Nat)(f:k<n):
 Cg p (F (addAt p c k z)) (fun j=>(z:Int)*(if j=k then 1 else 0)+F c j):=by
 apply Cg.mk;intro j;by_cases b:j=k
 . subst b;(have e:(addAt p c j z).getD j 0=(c.getD j 0+z) % p:=by simp[addAt,List.getD,d,f]);unfold F;rw[e,if_pos rfl];rw[Int.natCast_emod,Int.emod_emod,Int.natCast_add];congr 1;omega
 . (have e:(addAt p c k z).getD j 0=c.getD j 0:=by simp only[addAt,List.getD];rw[List.getElem?_set_ne U0]);unfold F;rw[e,if_neg b];simp
theorem pol_delta(m:Nat)(md:Vec)(k:Nat)(a:Vec):∀ n,k<n->pol m md (fun j=>if j=k then 1 else 0) n a=shN m md k a
 |0,h=>absurd h U0
 | n + 1,h => by
   funext j
   simp only[pol]
   by_cases hk:n=k
   . subst hk
     have:∀i,i<=n->pol m md (fun j=>if j=n then 1 else 0) i a=fun _=>0:=by
      intro i
      induction i with
      |zero=>intro _;rfl
      |succ i ih=>intro b;funext j;simp[pol,ih U0,show ¬i=n by omega]
     rw[this n (Nat.le_refl _)]
     simp
   . rw[pol_delta m md k a n U0,if_neg hk]
     simp
def ev(m:Nat)(md:Vec)(c:List Nat)(k:Nat):Vec:=pol m md (F c) k un
theorem ev_addAt{p m:Nat}(md:Vec){n:Nat}{c:List Nat}(d:n<=c.length)(k z:Nat)(b:k<n):
 Cg p (ev m md (addAt p c k z) n) (fun j=>(z:Int)*shN m md k un j+ev m md c n j):=by have h:=(F_addAt (p:=p) (c:=c) rfl k z U0).coef m md un n;refine Cg.trans h ?_;rw[qdZ,pol_delta m md k un n b];exact Cg.refl _ _
theorem qdI{p n:Nat}(f:0<p)(i d:Nat)(b:List Nat){c:List Nat}(h:Dig p n c):∀j,Dig p n (convRow p i d b c j)
 |0=>h
 |j+1=>addAt_dig f (qdI f i d b h j) _ _
theorem convRow_ev{p m:Nat}(h:0<p)(md:Vec)(i f:Nat)(b:List Nat){c:List Nat}(g:Dig p (2*m-1) c)(l:i<m):
 ∀j,j<=m->Cg p (ev m md (convRow p i f b c j) (2*m-1)) (fun k=>(f:Int)*shN m md i (pol m md (F b) j un) k+ev m md c (2*m-1) k)
 |0,_=>by
   apply Cg.of_eq
   funext k
   simp[convRow,pol,qeA]
 |j + 1,hj=>by
   have h1:=ev_addAt (p:=p) (m:=m) md (n:=2*m-1) (c:=convRow p i f b c j) (Nat.le_of_eq (qdI h i f b g j).1.symm) (i+j) (f*b.getD j 0) U0
   have d:=convRow_ev h md i f b g l j U0
   refine Cg.trans h1 (Cg.trans (Cg.lin _ (Cg.refl _ _) d) (Cg.of_eq ?_))
   funext k
   have e:pol m md (F b) (j+1) un=fun k=>F b j*shN m md j un k+pol m md (F b) j un k:=rfl
   rw[e,qdN,<- shN_add]
   unfold F
   rw[Int.natCast_mul]
   grind
theorem qcO{p:Nat}(c:0<p)(m:Nat)(a b:List Nat):∀i,Dig p (2*m-1) (conv p m a b i)
 |0=>⟨by simp[conv],fun d hd=>by simp[conv] at hd;omega⟩
 |i+1=>qdI c i _ b (qcO c m a b i) m
theorem conv_ev{p m:Nat}(g:0<p)(md:Vec)(a b:List Nat)(h:b.length=m):∀ i,i<=m->Cg p (ev m md (conv p m a b i) (2*m-1)) (pol m md (F a) i (F b))
 | 0,_ => by
   apply Cg.of_eq
   have:F (conv p m a b 0)=fun _=>0:=F_zero _
   unfold ev
   rw[this]
   have d:∀n,pol m md (fun _=>0) n un=fun _=>0:=by
    intro n
    induction n with
    |zero=>rfl
    |succ n ih=>funext j;simp[pol,ih]
   rw[d]
   rfl
 |i + 1,hi=>by
   have c:=convRow_ev g md i (a.getD i 0) b (qcO g m a b i) U0 m (Nat.le_refl _)
   have f:=conv_ev g md a b h i U0
   have e:pol m md (F b) m un=F b:=pol_id m md (qcP U0)
   rw[e] at c
   exact Cg.trans c (Cg.lin _ (Cg.refl _ _) f)
theorem qdW{p n:Nat}(b:0<p)(m:Nat)(md:List Nat)(i:Nat){c:List Nat}(h:Dig p n c):∀j,Dig p n (redRow p m md i c j)
 |0=>h
 |j+1=>addAt_dig b (qdW b m md i h j) _ _
theorem redRow_at{p m:Nat}(md:List Nat){i:Nat}(b:m<=i)(c:List Nat):∀ j,j<=m->(redRow p m md i c j).getD i 0=c.getD i 0
 |0,_=>rfl
 |j + 1,hj=>by
   have:=redRow_at (p:=p) md b c j U0
   rw[<- this]
   simp only[redRow,addAt,List.getD]
   rw[List.getElem?_set_ne U0]
theorem redRow_ev{p m:Nat}(q:0<p)(md:List Nat){i:Nat}(h:m<=i){c:List Nat}(o:Dig p (2*m-1) c)(l:i<2*m-1):
 ∀j,j<=m->Cg p (ev m (F md) (redRow p m md i c j) i) (fun k=>(((p-c.getD i 0:Nat):Int))*shN m (F md) (i-m) (pol m (F md) (F md) j un) k+ev m (F md) c i k)
 |0,_=>by
   apply Cg.of_eq
   funext k
   simp[redRow,pol,qeA]
 | j + 1,hj => by
   have hl:=(qdW q m md i o j).1
   have d:=ev_addAt (p:=p) (m:=m) (F md) (n:=i) (c:=redRow p m md i c j) U0 (i-m+j) ((p-(redRow p m md i c j).getD i 0)*md.getD j 0) U0
   have g:=redRow_ev q md h o l j U0
   rw[redRow_at md h c j U0] at d
   have b:Cg p (ev m (F md) (redRow p m md i c (j+1)) i) (fun k=>(((p-c.getD i 0)*md.getD j 0:Nat):Int)*shN m (F md) (i-m+j) un k+ev m (F md) (redRow p m md i c j) i k):=by
    have e:redRow p m md i c (j+1)=addAt p (redRow p m md i c j) (i-m+j) ((p-c.getD i 0)*md.getD j 0):=by
     show addAt p (redRow p m md i c j) (i-m+j) ((p-(redRow p m md i c j).getD i 0)*md.getD j 0)=_
     rw[redRow_at md h c j U0]
    rw[e]
    exact d
   refine Cg.trans b (Cg.trans (Cg.lin _ (Cg.refl _ _) g) (Cg.of_eq ?_))
   funext k
   have e:pol m (F md) (F md) (j+1) un=fun k=>F md j*shN m (F md) j un k+pol m (F md) (F md) j un k:=rfl
   rw[e,qdN,<- shN_add]
   have f:F md j=((md.getD j 0:Nat):Int):=rfl
   rw[f,Int.natCast_mul]
   grind
theorem red_step{p m:Nat}(o:0<p)(md:List Nat)(r:md.length=m){i:Nat}(q:m<=i){c:List Nat}(n:Dig p (2*m-1) c)(l:i<2*m-1):
 Cg p (ev m (F md) (redRow p m md i c m) i) (ev m (F md) c (i+1)):=by
 have d:=getD_lt o n i;refine Cg.trans (redRow_ev o md q n l m (Nat.le_refl _)) ?_;rw[pol_id m (F md) (qcP U0)];have b:shN m (F md) i un=fun k=>(-1)*shN m (F md) (i-m) (F md) k+0:=by
  have h:i=(i-m)+m:=U0;conv=>lhs;rw[h]
  rw[shN_add,shN_un_top m (F md) U0];have e:(fun j=>if j<m then-F md j else 0)=fun j=>(-1)*F md j+(fun _=>(0:Int)) j:=by
   funext j;by_cases f:j<m
   . rw[if_pos f];show-F md j=-1*F md j+0;omega
   . rw[if_neg f,qcP (m:=m) U0 j U0];rfl
  rw[e,qdN,qeA]
 refine⟨fun k=>shN m (F md) (i-m) (F md) k,?_⟩;funext k;show _=_+(F c i*shN m (F md) i un k+ev m (F md) c i k);rw[b];have g:F c i=((c.getD i 0:Nat):Int):=rfl;rw[g,Int.natCast_sub (Nat.le_of_lt d)];grind
theorem red_dig{p:Nat}(b:0<p)(m:Nat)(md:List Nat){c:List Nat}(h:Dig p (2*m-1) c):∀t,Dig p (2*m-1) (red p m md c t)
 |0=>h
 |t+1=>qdW b m md _ (red_dig b m md h t) m
theorem red_ev{p m:Nat}(h:0<p)(md:List Nat)(g:md.length=m){c:List Nat}(j:Dig p (2*m-1) c):
 ∀t,t<=m-1->Cg p (ev m (F md) (red p m md c t) (2*m-1-t)) (ev m (F md) c (2*m-1))
 |0,_=>Cg.refl _ _
 |t + 1,ht=>by
   have h1:=red_step h md g (i:=2*m-2-t) U0 (red_dig h m md j t) U0
   have f:=red_ev h md g j t U0
   have b:2*m-1-(t+1)=2*m-2-t:=U0
   have d:2*m-2-t+1=2*m-1-t:=U0
   rw[b]
   rw[d] at h1
   exact Cg.trans h1 f
theorem refMulL_dig{p m:Nat}(c:0<p)(f:0<m)(md a b:List Nat):Dig p m (refMulL p m md a b):=by have:=red_dig c m md (qcO c m a b m) (m-1);exact⟨by simp[refMulL,this.1];omega,fun d hd=>this.2 d (List.mem_of_mem_take hd)⟩
theorem refMulL_spec{p m:Nat}(k:0<p)(o:0<m)(md a b:List Nat)(i:md.length=m)(n:a.length=m)(l:b.length=m):Cg p (F (refMulL p m md a b)) (mz m (F md) (F a) (F b)):=by
 have d:=red_ev k md i (qcO k m a b m) (m-1) (Nat.le_refl _);have f:2*m-1-(m-1)=m:=U0;rw[f] at d;have h:=conv_ev k (F md) a b l m (Nat.le_refl _);have g:F (refMulL p m md a b)=ev m (F md) (red p m md (conv p m a b m) (m-1)) m:=by
  unfold ev;rw[pol_un m _ _ m (Nat.le_refl _)];funext j;unfold F refMulL;by_cases c:j<m
  . rw[if_pos c];simp[List.getD,c]
  . rw[if_neg c,qaZ so];rfl
 rw[g];refine Cg.trans d (Cg.trans h (Cg.of_eq ?_));exact mz_comm m _ (qcP U0) (qcP U0)
theorem refMulL_eq{p m:Nat}(f:0<p)(j:0<m)(md a b:List Nat)(g:md.length=m)(h:a.length=m)(i:b.length=m):refMulL p m md a b=mulL p m md a b:=by have c:=refMulL_dig f j md a b;have d:=qaW (m:=m) f md a b;exact F_inj (c.1.trans d.1.symm) c.2 d.2 ((refMulL_spec f j md a b g h i).trans (qbJ f md a b h i).symm)
structure Mon (q:Nat) (mul:Nat->Nat->Nat):Prop where
 lt:∀x y,mul x y<q
 comm:∀x y,mul x y=mul y x
 assoc:∀x y z,mul (mul x y) z=mul x (mul y z)
 one:∀x,x<q->mul 1 x=x
 zero:∀x,mul 0 x=0
 q1:1<q
def pw(mul:Nat->Nat->Nat)(x:Nat):Nat->Nat
 |0=>1
 |k+1=>mul (pw mul x k) x
def pows(mul:Nat->Nat->Nat)(x:Nat):Nat->Nat->List Nat->List Nat
 |0,_,acc=>acc
 |g+1,y,acc=>if y=0\/y∈acc then acc else pows mul x g (mul y x) (acc++[y])
def powers(mul:Nat->Nat->Nat)(q x:Nat):List Nat:=pows mul x q x [1]
def genGo(mul:Nat->Nat->Nat)(q:Nat):Nat->Nat->List Nat
 |0,_=>[]
 |g+1,x=>if(powers mul q x).length=q-1/\mul ((powers mul q x).getD (q-2) 0) x=1 then powers mul q x else genGo mul q g (x+1)
def genM(mul:Nat->Nat->Nat)(q:Nat):List Nat:=genGo mul q (q-1) 1
def pl(mul:Nat->Nat->Nat)(x k:Nat):List Nat:=(List.range k).map (pw mul x)
structure Tab (q:Nat) (mul:Nat->Nat->Nat) (l:List Nat):Prop where
 ex:∃x,1<=x/\x<q/\l=pl mul x (q-1)/\pw mul x (q-1)=1
 nd:l.Nodup
 nz:∀a∈l,a≠0
 lt:∀a∈l,a<q
theorem pigeon:∀ (n:Nat) (l:List Nat),l.Nodup->(∀ a∈l,a<n)->l.length<=n
 |0,l,_,h=>by
   cases l with
   |nil=>simp
   |cons a r=>exact absurd (h a (List.mem_cons_self ..)) U0
 | n + 1,l,hn,h => by
   by_cases hm:n∈l
   . have h1 := pigeon n (l.erase n) (hn.erase n) (fun a ha => by
      have b:=h a (List.mem_of_mem_erase ha)
      have c:a≠n:=fun e=>by subst e;exact(List.Nodup.not_mem_erase hn) ha
      omega)
     have b:=List.length_erase_of_mem hm
     omega
   . have h1 := pigeon n l hn (fun a ha => by
      have b:=h a ha
      have c:a≠n:=fun e=>by subst e;exact hm ha
      omega)
     omega
section
variable {q:Nat} {mul:Nat->Nat->Nat}
theorem pw_lt(H:Mon q mul)(x:Nat):∀k,pw mul x k<q
 |0=>H.q1
 |_+1=>H.lt _ _
theorem pw_add(H:Mon q mul)(x i:Nat):∀j,pw mul x (i+j)=mul (pw mul x i) (pw mul x j)
 |0=>by show pw mul x i=mul (pw mul x i) 1;rw[H.comm,H.one _ (pw_lt H x i)]
 |j+1=>by show mul (pw mul x (i+j)) x=mul (pw mul x i) (mul (pw mul x j) x);rw[pw_add H x i j,H.assoc]
theorem pw_zero(H:Mon q mul){x i:Nat}(h:pw mul x i=0)(j:Nat):pw mul x (i+j)=0:=by rw[pw_add H,h,H.zero]
theorem pw_per(H:Mon q mul){x n:Nat}(h:pw mul x n=1)(k:Nat):pw mul x (n+k)=pw mul x k:=by rw[pw_add H,h,H.one _ (pw_lt H x k)]
theorem pw_pers(H:Mon q mul){x n:Nat}(h:pw mul x n=1)(k:Nat):∀t,pw mul x (n*t+k)=pw mul x k
 |0=>by simp
 |t+1=>by rw[Nat.mul_succ,Nat.add_right_comm,Nat.add_comm (n*t+k) n,pw_per H h,pw_pers H h k t]
theorem pw_mod(H:Mon q mul){x n:Nat}(h:pw mul x n=1)(k:Nat):pw mul x (k % n)=pw mul x k:=by
 conv=>rhs;rw[<- Nat.div_add_mod k n]
 rw[pw_pers H h]
theorem pl_succ(x k:Nat):pl mul x (k+1)=pl mul x k++[pw mul x k]:=by simp[pl,List.range_succ]
theorem pl_len(x k:Nat):(pl mul x k).length=k:=by simp[pl]
theorem mem_pl{x k a:Nat}:a∈pl mul x k ↔ ∃i,i<k/\pw mul x i=a:=by simp[pl]
def Good(mul:Nat->Nat->Nat)(x k:Nat):Prop:=(pl mul x k).Nodup/\∀a∈pl mul x k,a≠0
theorem good_one(x:Nat):Good mul x 1:=by have e:pl mul x 1=[1]:=rfl;unfold Good;rw[e];simp
theorem good_succ{x k:Nat}(h:Good mul x k)(f:pw mul x k≠0)(g:pw mul x k∉pl mul x k):Good mul x (k+1):=by
 unfold Good at h ⊢;rw[pl_succ];refine⟨?_,?_⟩
 . rw[List.nodup_append];refine⟨h.1,U2,?_⟩;intro a c b d e;simp at d;subst d;subst e;exact g c
 . intro a c;rcases List.mem_append.1 c with h1|h1
   . exact h.2 a h1
   . simp at h1;rw[h1];exact f
theorem good_len(H:Mon q mul){x k:Nat}(h:Good mul x k):k<=q-1:=by
 have b:(0 :: pl mul x k).Nodup:=by rw[List.nodup_cons];exact⟨fun hm=>h.2 0 hm rfl,h.1⟩
 have c:=pigeon q _ b (fun a ha=>by
  rcases List.mem_cons.1 ha with rfl|ha
  . have:=H.q1;omega
  . obtain⟨i,_,rfl⟩:=mem_pl.1 ha
    exact pw_lt H x i)
 simp[pl_len] at c;omega
theorem pows_spec(H:Mon q mul)(x:Nat):∀ g k,Good mul x k->1<=k->∃ k',Good mul x k'/\k<=k'/\pows mul x g (pw mul x k) (pl mul x k)=pl mul x k'
 |0,k,h,_=>⟨k,h,Nat.le_refl _,rfl⟩
 | g + 1,k,h,hk => by
   by_cases hs:pw mul x k=0\/pw mul x k∈pl mul x k
   . exact⟨k,h,Nat.le_refl _,by simp[pows,hs]⟩
   . have hs' : pw mul x k ≠ 0/\pw mul x k ∉ pl mul x k:=⟨fun e=>hs (.inl e),fun e=>hs (.inr e)⟩
     obtain⟨k',b,d,c⟩:=pows_spec H x g (k+1) (good_succ h hs'.1 hs'.2) U0
     refine⟨k',b,U0,?_⟩
     rw[<- c,pl_succ]
     simp only[pows,if_neg hs]
     rfl
theorem powers_spec(H:Mon q mul){x:Nat}(d:x<q):∃k,Good mul x k/\1<=k/\powers mul q x=pl mul x k:=by
 have b:pw mul x 1=x:=by show mul 1 x=x;exact H.one x d
 obtain⟨k,h,c,e⟩:=pows_spec H x q 1 (good_one x) (Nat.le_refl _);rw[b] at e;exact⟨k,h,c,e⟩
theorem tab_of(H:Mon q mul){x:Nat}(o:1<=x)(l:x<q)(j:(powers mul q x).length=q-1)(h:mul ((powers mul q x).getD (q-2) 0) x=1):Tab q mul (powers mul q x):=by
 obtain⟨k,b,f,e⟩:=powers_spec H l;rw[e,pl_len] at j;subst j;rw[e] at h ⊢;have g:=H.q1;refine⟨⟨x,o,l,rfl,?_⟩,b.1,b.2,fun a ha=>?_⟩
 . obtain⟨n,d⟩:∃n,q=n+2:=⟨q-2,U0⟩;subst d;(have c:(pl mul x (n+2-1)).getD (n+2-2) 0=pw mul x n:=by simp[pl,List.getD]);rw[c] at h;exact h
 . obtain⟨i,_,rfl⟩:=mem_pl.1 ha;exact pw_lt H x i
theorem genGo_tab(H:Mon q mul):∀ g x,1<=x->x+g<=q->genGo mul q g x≠[]->Tab q mul (genGo mul q g x)
 |0,_,_,_,h=>absurd rfl h
 | g + 1,x,h1,h2,h => by
   unfold genGo at h ⊢
   by_cases hc:(powers mul q x).length=q-1/\mul ((powers mul q x).getD (q-2) 0) x=1
   . rw[if_pos hc]
     exact tab_of H h1 U0 hc.1 hc.2
   . rw[if_neg hc] at h ⊢
     exact genGo_tab H g (x+1) U0 U0 h
theorem genM_tab(H:Mon q mul)(h:genM mul q≠[]):Tab q mul (genM mul q):=genGo_tab H (q-1) 1 (Nat.le_refl _) (by have:=H.q1;omega) h
def Prim(mul:Nat->Nat->Nat)(q x:Nat):Prop:=pw mul x (q-1)=1/\∀i,0<i->i<q-1->pw mul x i≠1
theorem prim_good(H:Mon q mul){x:Nat}(g:Prim mul q x):∀ k,1<=k->k<=q-1->Good mul x k
 |0,h,_=>absurd h U0
 |1,_,_=>good_one x
 | k + 2,_,hk => by
   refine good_succ (prim_good H g (k+1) U0 U0) ?_ ?_
   . intro h0
     have:=pw_zero H h0 (q-1-(k+1))
     rw[show k+1+(q-1-(k+1))=q-1 by omega,g.1] at this
     exact absurd this U0
   . intro d
     obtain⟨i,f,e⟩:=mem_pl.1 d
     have b:pw mul x (i+(q-1-i))=1:=by rw[show i+(q-1-i)=q-1 by omega];exact g.1
     have c:pw mul x (k+1+(q-1-i))=pw mul x (k+1-i):=by
      rw[show k+1+(q-1-i)=(q-1)+(k+1-i) by omega]
      exact pw_per H g.1 _
     rw[pw_add H] at b c
     rw[e,c] at b
     exact g.2 _ U0 U0 b
theorem pows_prim(H:Mon q mul){x:Nat}(f:Prim mul q x):∀ g k,1<=k->k<=q-1->q-1<=k+g->pows mul x g (pw mul x k) (pl mul x k)=pl mul x (q-1)
 |0,k,h1,h2,h3=>by
   obtain rfl:k=q-1:=U0
   rfl
 | g + 1,k,h1,h2,h3 => by
   by_cases c:k=q-1
   . subst c
     have:pw mul x (q-1)∈pl mul x (q-1):=mem_pl.2 ⟨0,U0,by rw[f.1];rfl⟩
     simp[pows,this]
   . have b := prim_good H f (k + 1) U0 U0
     have d:¬(pw mul x k=0\/pw mul x k∈pl mul x k):=by
      unfold Good at b
      rw[pl_succ] at b
      rintro(h|h)
      . exact b.2 _ (List.mem_append.2 (.inr (List.mem_singleton.2 rfl))) h
      . exact(List.nodup_append.1 b.1).2.2 _ h _ (List.mem_singleton.2 rfl) rfl
     have:=pows_prim H f g (k+1) U0 U0 U0
     rw[<- this,pl_succ]
     simp only[pows,if_neg d]
     rfl
theorem powers_prim(H:Mon q mul){x:Nat}(f:x<q)(d:Prim mul q x):powers mul q x=pl mul x (q-1):=by
 have b:pw mul x 1=x:=by show mul 1 x=x;exact H.one x f
 have c:=H.q1;have:=pows_prim H d q 1 (Nat.le_refl _) U0 U0;rw[b] at this;exact this
theorem genGo_some(H:Mon q mul){x:Nat}(j:x<q)(i:Prim mul q x):∀ g y,1<=y->y<=x->x<y+g->genGo mul q g y≠[]
 |0,_,_,_,h=>absurd h U0
 | g + 1,y,h1,h2,h3 => by
   unfold genGo
   have hq:=H.q1
   by_cases b:(powers mul q y).length=q-1/\mul ((powers mul q y).getD (q-2) 0) y=1
   . rw[if_pos b]
     intro e
     rw[e] at b
     simp at b
     omega
   . rw [if_neg b]
     have f:y≠x:=by
      rintro rfl
      apply b
      rw[powers_prim H j i,pl_len]
      refine⟨rfl,?_⟩
      obtain⟨n,d⟩:∃n,q=n+2:=⟨q-2,U0⟩
      subst d
      have c:(pl mul y (n+2-1)).getD (n+2-2) 0=pw mul y n:=by simp[pl,List.getD]
      rw[c]
      exact i.1
     exact genGo_some H j i g (y+1) U0 U0 U0
theorem genM_some(H:Mon q mul){x:Nat}(b:1<=x)(d:x<q)(c:Prim mul q x):genM mul q≠[]:=genGo_some H d c (q-1) 1 (Nat.le_refl _) b U0
theorem Tab.len{l:List Nat}(T:Tab q mul l):l.length=q-1:=by obtain⟨x,_,_,e,_⟩:=T.ex;rw[e,pl_len]
theorem Tab.full(H:Mon q mul){l:List Nat}(T:Tab q mul l){a:Nat}(i:a≠0)(j:a<q):a∈l:=by
 refine Classical.byContradiction fun hn=>?_;have c:(0 :: a :: l).Nodup:=by
  rw[List.nodup_cons,List.nodup_cons];refine⟨?_,hn,T.nd⟩;intro f;rcases List.mem_cons.1 f with h|h
  . exact i h.symm
  . exact T.nz 0 h rfl
 have g:=H.q1
 have d:=pigeon q _ c (fun b hb=>by
  rcases List.mem_cons.1 hb with rfl|hb
  . omega
  . rcases List.mem_cons.1 hb with rfl|hb
    . exact j
    . exact T.lt b hb)
 simp[T.len] at d;omega
def logGo(l:List Nat)(t:List Nat):Nat->List Nat
 |0=>t
 |n+1=>(logGo l t n).set (l.getD n 0) n
def logL(l:List Nat)(q:Nat):List Nat:=logGo l (List.replicate q 0) l.length
theorem qcL(l t:List Nat):∀n,(logGo l t n).length=t.length
 |0=>rfl
 |n+1=>by simp[logGo,qcL l t n]
theorem logGo_at(l t:List Nat)(p:l.Nodup)(o:∀ a∈l,a<t.length):∀ n,n<=l.length->∀ i,i<n->(logGo l t n).getD (l.getD i 0) 0=i
 |0,_,i,hi=>absurd hi U0
 | n + 1,hn,i,hi => by
   by_cases h:i=n
   . subst h
     have hm:l.getD i 0∈l:=by
      have:l.getD i 0=l[i]:=by simp[List.getD,show i<l.length by omega]
      rw[this]
      exact List.getElem_mem _
     have d:=o _ hm
     simp only[logGo,List.getD] at d ⊢
     rw[List.getElem?_set_self (by rw[qcL];exact d)]
     rfl
   . have f := logGo_at l t p o n U0 i U0
     have c:l.getD n 0≠l.getD i 0:=by
      have g:l.getD n 0=l[n]:=by simp[List.getD,show n<l.length by omega]
      have j:l.getD i 0=l[i]:=by simp[List.getD,show i<l.length by omega]
      rw[g,j]
      intro k
      exact List.pairwise_iff_getElem.1 p i n U0 U0 U0 k.symm
     show((logGo l t n).set (l.getD n 0) n).getD (l.getD i 0) 0=i
     generalize l.getD n 0=a at *
     generalize l.getD i 0=b at *
     generalize (logGo l t n)=u at *
     simp only[List.getD] at f ⊢
     rw[List.getElem?_set_ne c]
     exact f
def mulT(l lg:List Nat)(q x y:Nat):Nat:=if x=0\/y=0 then 0 else l.getD ((lg.getD x 0+lg.getD y 0) % (q-1)) 0
def invT(l lg:List Nat)(q x:Nat):Nat:=l.getD ((q-1-lg.getD x 0) % (q-1)) 0
theorem Tab.log(H:Mon q mul){l:List Nat}(T:Tab q mul l){a:Nat}(f:a≠0)(g:a<q):
 (logL l q).getD a 0<q-1/\l.getD ((logL l q).getD a 0) 0=a:=by
 have d:=T.full H f g;obtain⟨i,b,e⟩:=List.mem_iff_getElem.1 d;have c:l.getD i 0=a:=by simp[List.getD,b,e]
 have:=logGo_at l (List.replicate q 0) T.nd (by simpa using T.lt) l.length (Nat.le_refl _) i b;unfold logL;rw[c] at this;rw[this];exact⟨by rw[<- T.len];exact b,c⟩
theorem Tab.get{l:List Nat}(T:Tab q mul l):∃x,1<=x/\x<q/\pw mul x (q-1)=1/\∀i,i<q-1->l.getD i 0=pw mul x i:=by obtain⟨x,b,c,rfl,d⟩:=T.ex;exact⟨x,b,c,d,fun i hi=>by simp[pl,List.getD,hi]⟩
theorem Tab.mul_eq(H:Mon q mul){l:List Nat}(T:Tab q mul l){x y:Nat}(n:x<q)(o:y<q):mulT l (logL l q) q x y=mul x y:=by
 unfold mulT;by_cases h:x=0\/y=0
 . rw[if_pos h];rcases h with rfl|rfl
   . rw[H.zero]
   . rw[H.comm,H.zero]
 . rw[if_neg h];have c:x≠0:=fun e=>h (.inl e);have d:y≠0:=fun e=>h (.inr e);obtain⟨f,g⟩:=T.log H c n;obtain⟨i,j⟩:=T.log H d o;obtain⟨z,_,_,k,b⟩:=T.get;have m:=H.q1;rw[b _ (Nat.mod_lt _ U0),pw_mod H k,pw_add H,<- b _ f,<- b _ i,g,j]
theorem Tab.inv(H:Mon q mul){l:List Nat}(T:Tab q mul l){x:Nat}(n:x≠0)(o:x<q):mul x (invT l (logL l q) q x)=1/\invT l (logL l q) q x<q/\invT l (logL l q) q x≠0:=by
 obtain⟨g,j⟩:=T.log H n o;obtain⟨z,_,_,f,d⟩:=T.get;have k:=H.q1;have e:invT l (logL l q) q x=pw mul z (q-1-(logL l q).getD x 0):=by unfold invT;rw[d _ (Nat.mod_lt _ U0),pw_mod H f]
 rw[e];have b:mul x (pw mul z (q-1-(logL l q).getD x 0))=1:=by
  have c:x=pw mul z ((logL l q).getD x 0):=by rw[<- d _ g,j]
  generalize (logL l q).getD x 0=i at *;rw[c,<- pw_add H,show i+(q-1-i)=q-1 by omega,f]
 refine⟨b,pw_lt H z _,fun h=>?_⟩;rw[h,H.comm,H.zero] at b;exact absurd b U0
theorem Tab.inv_uniq(H:Mon q mul){x y z:Nat}(g:y<q)(h:z<q)(d:mul x y=1)(f:mul x z=1):y=z:=by
 have b:mul (mul z x) y=y:=by rw[H.comm z x,f,H.one y g]
 have c:mul (mul z x) y=z:=by rw[H.assoc,d,H.comm,H.one z h]
 exact b.symm.trans c
theorem Tab.nodiv(H:Mon q mul){l:List Nat}(T:Tab q mul l){x y:Nat}(p:x<q)(r:y<q)(n:x≠0)(o:y≠0):mul x y≠0:=by
 obtain⟨f,g⟩:=T.log H n p;obtain⟨h,i⟩:=T.log H o r;obtain⟨z,_,_,j,c⟩:=T.get;have k:=H.q1;intro d;have e:mul x y=pw mul z (((logL l q).getD x 0+(logL l q).getD y 0) % (q-1)):=by rw[pw_mod H j,pw_add H,<- c _ f,<- c _ h,g,i]
 have b:((logL l q).getD x 0+(logL l q).getD y 0) % (q-1)<q-1:=Nat.mod_lt _ U0;rw[e,<- c _ b] at d;refine T.nz _ ?_ d;have:l.getD (((logL l q).getD x 0+(logL l q).getD y 0) % (q-1)) 0=l[((logL l q).getD x 0+(logL l q).getD y 0) % (q-1)]'(by rw[T.len];exact b):=by rw[List.getD_eq_getElem?_getD,List.getElem?_eq_getElem (by rw[T.len];exact b)];rfl
 rw[this];exact List.getElem_mem _
def invGo(mul:Nat->Nat->Nat)(x:Nat):Nat->Nat->Nat
 |0,_=>0
 |g+1,y=>if mul x y=1 then y else invGo mul x g (y+1)
def refInv(mul:Nat->Nat->Nat)(q x:Nat):Nat:=invGo mul x (q-1) 1
theorem invGo_spec(H:Mon q mul){x z:Nat}(b:z<q)(h:mul x z=1):∀ g y,y<=z->z<y+g->y+g<=q->invGo mul x g y=z
 |0,_,_,h2,_=>absurd h2 U0
 | g + 1,y,h1,h2,h3 => by
   unfold invGo
   by_cases hc:mul x y=1
   . rw[if_pos hc]
     exact Tab.inv_uniq H U0 b hc h
   . rw[if_neg hc]
     have:y≠z:=fun e=>hc (e ▸ h)
     exact invGo_spec H b h g (y+1) U0 U0 U0
theorem refInv_eq(H:Mon q mul){l:List Nat}(T:Tab q mul l){x:Nat}(g:x≠0)(h:x<q):refInv mul q x=invT l (logL l q) q x:=by obtain⟨b,c,d⟩:=T.inv H g h;have f:=H.q1;exact invGo_spec H c b (q-1) 1 U0 U0 U0
end
def mulM(p m:Nat)(md:List Nat)(x y:Nat):Nat:=val p (mulL p m md (digs p m x) (digs p m y))
theorem mulM_dig{p m:Nat}(b:0<p)(md:List Nat)(x y:Nat):digs p m (mulM p m md x y)=mulL p m md (digs p m x) (digs p m y):=by have h:=qaW (m:=m) b md (digs p m x) (digs p m y);have:=qcR b _ h.2;rw[h.1] at this;exact this
theorem F_digs_zero(p m:Nat):F (digs p m 0)=fun _=>0:=by
 have:∀m,digs p m 0=List.replicate m 0:=by
  intro m;induction m with
  |zero=>rfl
  |succ m ih=>simp[digs,ih,List.replicate_succ]
 rw[this,F_zero]
theorem digs_zero(p:Nat):∀m,digs p m 0=List.replicate m 0
 |0=>rfl
 |m+1=>by simp[digs,digs_zero p m,List.replicate_succ]
theorem val_zero(p:Nat):∀m,val p (List.replicate m 0)=0
 |0=>rfl
 |m+1=>by simp[val,val_zero p m,List.replicate_succ]
theorem F_digs_one{p m:Nat}(b:1<p)(c:0<m):F (digs p m 1)=un:=by
 obtain⟨n,rfl⟩:∃n,m=n+1:=⟨m-1,U0⟩;have e:digs p (n+1) 1=1 :: List.replicate n 0:=by simp only[digs];rw[Nat.mod_eq_of_lt b,Nat.div_eq_of_lt b,digs_zero]
 rw[e];funext j;cases j with
 |zero=>rfl
 |succ j=>rw[F_cons,F_zero];rfl
theorem dig_zero_of{p m:Nat}{l:List Nat}(h:Dig p m l)(c:Cg p (F l) (fun _=>0)):l=List.replicate m 0:=by
 refine F_inj (p:=p) (by simp[h.1]) h.2 ?_ ?_
 . intro d hd;have b:0<p:=by
    cases l with
    |nil=>have:=h.1;simp at this;subst this;simp at hd
    |cons a r=>have:=h.2 a (List.mem_cons_self ..);omega
   simp at hd;omega
 . rw[F_zero];exact c
theorem qaV{p m:Nat}(d:1<p)(f:0<m)(md:List Nat):Mon (p ^ m) (mulM p m md) where
 lt x y:=by
  have h:=qaW (m:=m) (by omega:0<p) md (digs p m x) (digs p m y)
  have:=val_lt (by omega:0<p) _ h.2
  rw[h.1] at this
  exact this
 comm x y:=by unfold mulM;rw[mulL_comm U0 md _ _ (qaK p m x) (qaK p m y)]
 assoc x y z:=by
  show val p (mulL p m md (digs p m (mulM p m md x y)) (digs p m z))=val p (mulL p m md (digs p m x) (digs p m (mulM p m md y z)))
  rw[mulM_dig U0,mulM_dig U0,mulL_assoc U0 md _ _ _ (qaK p m x) (qaK p m y) (qaK p m z)]
 one x hx:=by
  have h:=qaW (m:=m) (by omega:0<p) md (digs p m 1) (digs p m x)
  have b:=qcB (by omega:0<p) m x
  have e:mulL p m md (digs p m 1) (digs p m x)=digs p m x:=by
   refine F_inj (p:=p) (h.1.trans b.1.symm) h.2 b.2 ?_
   refine(qbJ U0 md _ _ (qaK p m 1) (qaK p m x)).trans (Cg.of_eq ?_)
   rw[F_digs_one d f,mz_un]
   funext j
   by_cases c:j<m
   . rw[if_pos c]
   . rw[if_neg c,qcP (m:=m) (by rw[b.1];exact Nat.le_refl _) j U0]
  unfold mulM
  rw[e,val_digs U0 m x hx]
 zero x:=by
  have h:=qaW (m:=m) (by omega:0<p) md (digs p m 0) (digs p m x)
  have e:mulL p m md (digs p m 0) (digs p m x)=List.replicate m 0:=by
   refine dig_zero_of h ?_
   refine(qbJ U0 md _ _ (qaK p m 0) (qaK p m x)).trans (Cg.of_eq ?_)
   rw[F_digs_zero]
   exact pol_zero m _ _ m
  unfold mulM
  rw[e,val_zero]
 q1:=Nat.one_lt_pow U0 d
def divRow(p d:Nat)(low:List Nat)(i c:Nat)(r:List Nat):Nat->List Nat
 |0=>r
 |j+1=>addAt p (divRow p d low i c r j) (i-d+j) ((p-c)*low.getD j 0)
def divGo(p:Nat)(low r:List Nat):Nat->List Nat
 |0=>r
 |t+1=>(divRow p low.length low (r.length-1-t) ((divGo p low r t).getD (r.length-1-t) 0) (divGo p low r t) low.length).set (r.length-1-t) 0
def dividesM(p:Nat)(low md:List Nat):Bool:=(divGo p low (md++[1]) (md.length+1-low.length)).all (·==0)
def irrM(p:Nat)(md:List Nat):Bool:=(List.range (md.length / 2)).all fun d=>(List.range (p^(d+1))).all fun v=>!dividesM p (digs p (d+1) v) md
theorem qcY{p n:Nat}(b:0<p)(d:Nat)(low:List Nat)(i c:Nat){r:List Nat}(h:Dig p n r):∀j,Dig p n (divRow p d low i c r j)
 |0=>h
 |j+1=>addAt_dig b (qcY b d low i c h j) _ _
theorem divGo_dig{p n:Nat}(b:0<p)(low:List Nat){r:List Nat}(h:Dig p n r):∀ t,Dig p n (divGo p low r t)
 |0=>h
 |t + 1=>by
   have h1:=qcY b low.length low (r.length-1-t) ((divGo p low r t).getD (r.length-1-t) 0) (divGo_dig b low h t) low.length
   refine⟨by unfold divGo;rw[List.length_set];exact h1.1,fun d hd=>?_⟩
   rcases List.mem_or_eq_of_mem_set hd with h'|rfl
   . exact h1.2 _ h'
   . exact b
theorem divRow_ev{p m:Nat}(f:0<p)(md:Vec)(low:List Nat)(i c:Nat){n:Nat}{r:List Nat}(g:Dig p n r)(hd:low.length<=i)(h:i<n):
 ∀j,j<=low.length->Cg p (ev m md (divRow p low.length low i c r j) n) (fun k=>(((p-c:Nat):Int))*shN m md (i-low.length) (pol m md (F low) j un) k+ev m md r n k)
 |0,_=>by
   apply Cg.of_eq
   funext k
   simp[divRow,pol,qeA]
 |j + 1,hj=>by
   have h1:=ev_addAt (p:=p) (m:=m) md (n:=n) (c:=divRow p low.length low i c r j) (Nat.le_of_eq (qcY f low.length low i c g j).1.symm) (i-low.length+j) ((p-c)*low.getD j 0) U0
   have d:=divRow_ev (m:=m) f md low i c g hd h j U0
   refine Cg.trans h1 (Cg.trans (Cg.lin _ (Cg.refl _ _) d) (Cg.of_eq ?_))
   funext k
   have e:pol m md (F low) (j+1) un=fun k=>F low j*shN m md j un k+pol m md (F low) j un k:=rfl
   rw[e,qdN,<- shN_add]
   have b:F low j=((low.getD j 0:Nat):Int):=rfl
   rw[b,Int.natCast_mul]
   grind
theorem divRow_at{p:Nat}(d:Nat)(low:List Nat){i:Nat}(hd:d<=i)(c:Nat)(r:List Nat):∀ j,j<=d->(divRow p d low i c r j).getD i 0=r.getD i 0
 |0,_=>rfl
 |j + 1,hj=>by
   have:=divRow_at (p:=p) d low hd c r j U0
   rw[<- this]
   simp only[divRow,addAt,List.getD]
   rw[List.getElem?_set_ne U0]
theorem F_set0{r:List Nat}{i:Nat}(c:i<r.length):F (r.set i 0)=fun j=>(- ((r.getD i 0:Nat):Int))*(if j=i then 1 else 0)+F r j:=by
 funext j;unfold F;by_cases b:j=i
 . subst b;rw[if_pos rfl];simp[List.getD,c];omega
 . rw[if_neg b];simp only[List.getD];rw[List.getElem?_set_ne U0];simp
def G(m:Nat)(md:Vec)(low:List Nat):Vec:=fun k=>shN m md low.length un k+pol m md (F low) low.length un k
theorem div_step{p m:Nat}(o:0<p)(md:Vec)(low:List Nat)(i:Nat){n:Nat}{r:List Nat}(s:Dig p n r)(hd:low.length<=i)(t:i<n):
 Cg p (ev m md ((divRow p low.length low i (r.getD i 0) r low.length).set i 0) n) (fun k=>(- ((r.getD i 0:Nat):Int))*shN m md (i-low.length) (G m md low) k+ev m md r n k):=by
 have h:=divRow_ev (m:=m) o md low i (r.getD i 0) s hd t low.length (Nat.le_refl _);have l:=(qcY o low.length low i (r.getD i 0) s low.length).1;have b:=divRow_at (p:=p) low.length low hd (r.getD i 0) r low.length (Nat.le_refl _);have c:=getD_lt o s i;generalize j:divRow p low.length low i (r.getD i 0) r low.length=D at *;have d:ev m md (D.set i 0) n=fun k=>(- ((D.getD i 0:Nat):Int))*shN m md i un k+ev m md D n k:=by unfold ev;rw[F_set0 U0,qdZ,pol_delta m md i un n t]
 rw[d,b];refine Cg.trans (Cg.lin _ (Cg.refl _ _) h) ?_;have f:shN m md i un=shN m md (i-low.length) (shN m md low.length un):=by rw[<- shN_add];congr 1;omega
 have g:G m md low=fun k=>1*shN m md low.length un k+pol m md (F low) low.length un k:=by funext k;simp[G]
 rw[f,g,qdN];refine⟨fun k=>shN m md (i-low.length) (pol m md (F low) low.length un) k,?_⟩;funext k;rw[Int.natCast_sub (Nat.le_of_lt c)];grind
theorem div_all{p m:Nat}(A:0<p)(md:Vec)(low:List Nat){r:List Nat}(C:Dig p (m+1) r)(hd:low.length<=m)(z:r.getD m 0=1)(B:1<p):
 ∀t,t<=m+1-low.length->∃h:Nat->Nat,(∀k,h k<p)/\(∀k,m-low.length<k->h k=0)/\(∀k,k+t<m+1-low.length->h k=0)/\(0<t->h (m-low.length)=1)/\
  Cg p (ev m md (divGo p low r t) (m+1)) (fun j=>(-1)*pol m md (fun k=>(h k:Int)) (m+1-low.length) (G m md low) j+ev m md r (m+1) j)
 | 0,_ => by
   refine⟨fun _=>0,fun _=>A,fun _ _=>rfl,fun _ _=>rfl,fun h=>absurd h U0,Cg.of_eq ?_⟩
   funext j
   have h0:∀n,pol m md (fun _=>((0:Nat):Int)) n (G m md low)=fun _=>0:=by
    intro n
    induction n with
    |zero=>rfl
    |succ n ih=>funext j;show((0:Nat):Int)*_+pol m md (fun _=>((0:Nat):Int)) n (G m md low) j=0;rw[ih];simp
   rw[h0]
   simp[divGo]
 | t + 1,ht => by
   obtain⟨h,l,o,f,q,s⟩:=div_all A md low C hd z B t U0
   have g:=divGo_dig A low C t
   have v:r.length-1-t=m-t:=by rw[C.1];omega
   have x:=div_step (m:=m) A md low (m-t) g U0 U0
   have d:=getD_lt A g (m-t)
   have e:divGo p low r (t+1)=(divRow p low.length low (m-t) ((divGo p low r t).getD (m-t) 0) (divGo p low r t) low.length).set (m-t) 0:=by
    show(divRow p low.length low (r.length-1-t) ((divGo p low r t).getD (r.length-1-t) 0) (divGo p low r t) low.length).set (r.length-1-t) 0=_
    rw[v]
   generalize u:(divGo p low r t).getD (m-t) 0=c at *
   refine⟨fun k=>if k=m-t-low.length then c else h k,?_,?_,?_,?_,?_⟩
   . intro k
     show(if k=m-t-low.length then c else h k)<p
     split
     . exact d
     . exact l k
   . intro k b
     show(if k=m-t-low.length then c else h k)=0
     rw[if_neg U0]
     exact o k b
   . intro k b
     show(if k=m-t-low.length then c else h k)=0
     rw[if_neg U0]
     exact f k U0
   . intro _
     show(if m-low.length=m-t-low.length then c else h (m-low.length))=1
     by_cases h0:t=0
     . subst h0
       rw[if_pos U0,<- u]
       exact z
     . rw[if_neg U0]
       exact q U0
   . rw [e]
     refine Cg.trans x (Cg.trans (Cg.lin _ (Cg.refl _ _) s) (Cg.of_eq ?_))
     have y:h (m-t-low.length)=0:=f _ U0
     have i:(fun k=>(((if k=m-t-low.length then c else h k):Nat):Int))=fun k=>(c:Int)*(if k=m-t-low.length then 1 else 0)+(fun k=>(h k:Int)) k:=by
      funext k
      by_cases b:k=m-t-low.length
      . subst b
        simp[y]
      . simp[b]
     rw[i,qdZ,pol_delta m md (m-t-low.length) (G m md low) (m+1-low.length) U0]
     funext j
     grind
theorem ev_zero(m:Nat)(md:Vec)(r:List Nat)(h:r.all (·==0)=true)(n:Nat):ev m md r n=fun _=>0:=by
 have d:F r=fun _=>0:=by
  funext j;unfold F;by_cases c:j<r.length
  . (have:r.getD j 0=r[j]:=by simp[List.getD,c]);rw[this];have b:=List.all_eq_true.1 h _ (List.getElem_mem c);simp at b;simp[b]
  . rw[qaZ U0];rfl
 unfold ev;rw[d];induction n with
 |zero=>rfl
 |succ n ih=>funext j;simp[pol,ih]
theorem ev_self{m:Nat}(g:0<m)(md:List Nat)(f:md.length=m):ev m (F md) (md++[1]) (m+1)=fun _=>0:=by
 unfold ev;have c:∀k,k<=m->pol m (F md) (F (md++[1])) k un=pol m (F md) (F md) k un:=by
  intro k;induction k with
  |zero=>intro _;rfl
  |succ k ih=>intro d;funext j;simp only[pol,ih U0];(have:F (md++[1]) k=F md k:=by unfold F;simp only[List.getD];rw[List.getElem?_append_left U0]);rw[this]
 funext j;show F (md++[1]) m*shN m (F md) m un j+pol m (F md) (F (md++[1])) m un j=0;rw[c m (Nat.le_refl _),pol_id m (F md) (qcP U0),shN_un_top m (F md) g];have:F (md++[1]) m=1:=by unfold F;simp[List.getD,<- f]
 rw[this];simp only;by_cases b:j<m
 . rw[if_pos b];omega
 . rw[if_neg b,qcP (m:=m) U0 j U0];rfl
theorem val_ne{p:Nat}(c:0<p):∀ (l:List Nat) (j:Nat),l.getD j 0≠0->val p l≠0
 |[],j,h=>by simp at h
 |d :: r,0,h=>by
   simp[List.getD] at h
   simp only[val]
   omega
 |d :: r,j + 1,h=>by
   have:=val_ne c r j (by simpa[List.getD] using h)
   simp only[val]
   have b:0<p*val p r:=Nat.mul_pos c U0
   omega
theorem div_zero{p m:Nat}(P:1<p)(md low:List Nat)(L:Dig p m md)(N:∀ d∈low,d<p)(O:1<=low.length)(M:low.length<m)(h:dividesM p low md=true):
 ∃x y,x<p^m/\y<p^m/\x≠0/\y≠0/\mulM p m md x y=0:=by
 have J:0<m:=U0;have K:Dig p (m+1) (md++[1]):=by
  refine⟨by simp[L.1],fun d hd=>?_⟩;rcases List.mem_append.1 hd with h|h
  . exact L.2 d h
  . simp at h;omega
 have r:(md++[1]).getD m 0=1:=by simp[List.getD,<- L.1]
 obtain⟨g,D,A,_,E,B⟩:=div_all (m:=m) U0 (F md) low K U0 r P (m+1-low.length) (Nat.le_refl _);unfold dividesM at h;rw[L.1] at h;rw[ev_zero m (F md) _ h,ev_self J md L.1] at B;have H:Cg p (pol m (F md) (fun k=>(g k:Int)) (m+1-low.length) (G m (F md) low)) (fun _=>0):=by obtain⟨t,ht⟩:=B;refine⟨t,?_⟩;funext j;have:=congrFun ht j;simp only[Int.add_zero] at this ⊢;omega
 have s:∀n,pol m (F md) (fun k=>(g k:Int)) (m+1-low.length+n) (G m (F md) low)=pol m (F md) (fun k=>(g k:Int)) (m+1-low.length) (G m (F md) low):=by
  intro n;induction n with
  |zero=>rfl
  |succ n ih=>funext j;show(g (m+1-low.length+n):Int)*_+pol m (F md) (fun k=>(g k:Int)) (m+1-low.length+n) (G m (F md) low) j=_;rw[A _ U0,ih];simp
 have I:Cg p (mz m (F md) (G m (F md) low) (fun k=>(g k:Int))) (fun _=>0):=by have:=s (low.length-1);rw[show m+1-low.length+(low.length-1)=m by omega] at this;unfold mz;rw[this];exact H
 have l:F (low++[1]++List.replicate (m-1-low.length) 0)=G m (F md) low:=by
  unfold G;rw[shN_un m (F md) _ M,pol_un m (F md) _ _ U0];funext j;unfold F;by_cases q:j<low.length
  . (have i:¬j=low.length:=by omega);simp only[if_neg i,if_pos q,List.getD];rw[List.append_assoc,List.getElem?_append_left q];omega
  . by_cases i : j = low.length
    . subst i;simp[List.getD]
    . simp only[if_neg i,if_neg q,List.getD];rw[List.getElem?_append_right so];simp[List.getElem?_replicate];split<;>simp
 have c:Dig p m (low++[1]++List.replicate (m-1-low.length) 0):=by
  refine⟨so,fun d hd=>?_⟩;simp at hd;rcases hd with h|h|h
  . exact N d h
  . omega
  . omega
 have f:Dig p m ((List.range m).map g):=by refine⟨U2,fun d hd=>?_⟩;obtain⟨k,_,rfl⟩:=List.mem_map.1 hd;exact D k
 have u:F ((List.range m).map g)=fun k=>(g k:Int):=by
  funext j;unfold F;by_cases q:j<m
  . simp[List.getD,q]
  . rw[qaZ so,A j U0]
 generalize low++[1]++List.replicate (m-1-low.length) 0=o at l c;have b:0<p:=U0;refine⟨val p o,val p ((List.range m).map g),?_,?_,?_,?_,?_⟩
 . have:=val_lt b o c.2;rwa [c.1] at this
 . have:=val_lt b _ f.2;rwa [f.1] at this
 . apply val_ne b o low.length;intro C;(have:F o low.length=0:=by unfold F;rw[C];rfl);rw[l] at this;unfold G at this;rw[shN_un m (F md) _ M,pol_un m (F md) _ _ U0] at this;simp at this
 . apply val_ne b _ (m-low.length);have:=E U0;simp[List.getD,show m-low.length<m by omega,this]
 . unfold mulM;have v:=qcR b o c.2;have z:=qcR b _ f.2;rw[c.1] at v;rw[f.1] at z;rw[v,z];have hd:=qaW (m:=m) b md o ((List.range m).map g);have:=dig_zero_of hd (Cg.trans (qbJ b md _ _ c.1 f.1) (by rw[l,u];exact I));rw[this,val_zero]
theorem irr_of_tab{p m:Nat}(r:1<p)(md:List Nat)(o:Dig p m md){l:List Nat}(T:Tab (p^m) (mulM p m md) l):irrM p md=true:=by
 refine Classical.byContradiction fun b=>?_;rw[Bool.not_eq_true] at b;unfold irrM at b;rw[List.all_eq_false] at b;obtain⟨d,hd,b⟩:=b;rw[Bool.not_eq_true,List.all_eq_false] at b;obtain⟨v,n,b⟩:=b;simp at b hd;have h:=o.1;by_cases g:0<m
 . obtain⟨x,y,i,j,c,f,k⟩:=div_zero r md (digs p (d+1) v) o (qdU U0 _ _) (by rw[qaK];omega) (by rw[qaK];omega) b;exact T.nodiv (qaV r g md) i j c f k
 . omega
def pwF(mul:Nat->Nat->Nat)(x:Nat):Nat->Nat->Nat
 |0,_=>1
 |g+1,n=>if n=0 then 1 else if n % 2=1 then mul (mul (pwF mul x g (n / 2)) (pwF mul x g (n / 2))) x else mul (pwF mul x g (n / 2)) (pwF mul x g (n / 2))
def primT(mul:Nat->Nat->Nat)(n:Nat)(rs:List Nat)(x:Nat):Bool:=pwF mul x 9 n==1 && rs.all fun r=>pwF mul x 9 (n / r) != 1
def rsOK(n:Nat)(rs:List Nat):Bool:=(List.range n).all fun d=>d==0 || n % d != 0 || rs.any fun r=>n / r % d==0
section
variable {q:Nat} {mul:Nat->Nat->Nat}
theorem pwF_eq(H:Mon q mul)(x:Nat):∀ g n,n<2 ^ g->pwF mul x g n=pw mul x n
 |0,n,h=>by
   have:n=0:=by simpa using h
   subst this
   rfl
 | g + 1,n,h => by
   have d:=pwF_eq H x g (n / 2) (by rw[Nat.pow_succ] at h;omega)
   unfold pwF
   rw[d,<- pw_add H]
   by_cases b:n=0
   . rw[if_pos b,b]
     rfl
   . rw [if_neg b]
     by_cases c:n % 2=1
     . rw[if_pos c]
       show pw mul x (n / 2+n / 2+1)=_
       congr 1
       omega
     . rw[if_neg c]
       congr 1
       omega
theorem low_order(H:Mon q mul){x n:Nat}(j:pw mul x n=1):∀i,0<i->i<n->pw mul x i=1->∃d,0<d/\d<n/\n % d=0/\pw mul x d=1:=by
 intro i;induction i using Nat.strongRecOn with
 |_ i ih=>
  intro b f c;by_cases g:n % i=0
  . exact⟨i,b,f,g,c⟩
  . have h:n % i<i:=Nat.mod_lt _ b;exact ih (n % i) h U0 U0 (by rw[pw_mod H c,j])
theorem prim_of(H:Mon q mul){y:List Nat}(v:rsOK (q-1) y=true)(z:q<=256){x:Nat}(h:primT mul (q-1) y x=true):Prim mul q x:=by
 unfold primT at h;rw[Bool.and_eq_true] at h;obtain⟨g,n⟩:=h;rw[pwF_eq H x 9 _ U0] at g;have c:pw mul x (q-1)=1:=by simpa using g
 refine⟨c,fun i h0 hi he=>?_⟩;obtain⟨d,u,k,l,m⟩:=low_order H c i h0 hi he;unfold rsOK at v;have b:=List.all_eq_true.1 v d (List.mem_range.2 k);simp only[Bool.or_eq_true,beq_iff_eq,bne_iff_ne,ne_eq] at b;rcases b with(b|b)|b
 . omega
 . exact b l
 . obtain⟨r,t,o⟩:=List.any_eq_true.1 b;have f:=List.all_eq_true.1 n r t;(have p:(q-1) / r<2^9:=by have:=Nat.div_le_self (q-1) r;omega);rw[pwF_eq H x 9 _ p] at f;(have s:(q-1) / r % d=0:=by simpa using o);have j:=pw_mod H m ((q-1) / r);rw[s] at j;simp at f;exact f j.symm
end
def force{α:Type}(n:Nat)(f:Nat->α):α:=Nat.rec (f 0) (fun k _=>f (k+1)) n
theorem force_eq{α:Type}(n:Nat)(f:Nat->α):force n f=f n:=by cases n<;>rfl
def fl{α:Type}:List Nat->(List Nat->α)->α
 |[],k=>k []
 |x :: r,k=>force x fun y=>fl r fun s=>k (y :: s)
theorem fl_eq{α:Type}:∀(l:List Nat)(k:List Nat->α),fl l k=k l
 |[],_=>rfl
 |x :: r,k=>by simp only[fl,force_eq,fl_eq r]
def mulLS{α:Type}(p m:Nat)(md a:List Nat):List Nat->(List Nat->α)->α
 |[],k=>k (List.replicate m 0)
 |x :: r,k=>mulLS p m md a r fun out=>fl (stepM p m md a x out) k
theorem mulLS_eq{α:Type}(p m:Nat)(md a:List Nat):∀(b:List Nat)(k:List Nat->α),mulLS p m md a b k=k (mulL p m md a b)
 |[],_=>rfl
 |x :: r,k=>by simp only[mulLS,mulLS_eq p m md a r,fl_eq];rfl
def mulMS{α:Type}(p m:Nat)(md:List Nat)(x y:Nat)(k:Nat->α):α:=fl (digs p m x) fun a=>fl (digs p m y) fun b=>mulLS p m md a b fun l=>force (val p l) k
theorem mulMS_eq{α:Type}(p m:Nat)(md:List Nat)(x y:Nat)(k:Nat->α):mulMS p m md x y k=k (mulM p m md x y):=by unfold mulMS mulM;rw[fl_eq,fl_eq,mulLS_eq,force_eq]
def pwS{α:Type}(p m:Nat)(md:List Nat)(x:Nat):Nat->Nat->(Nat->α)->α
 |0,_,k=>k 1
 |g+1,n,k=>if n=0 then k 1 else force (n / 2) fun h=>pwS p m md x g h fun y=>mulMS p m md y y fun s=>if n % 2=1 then mulMS p m md s x k else k s
theorem pwS_eq{α:Type}(p m:Nat)(md:List Nat)(x:Nat):∀ (g n:Nat) (k:Nat->α),pwS p m md x g n k=k (pwF (mulM p m md) x g n)
 |0,_,_=>rfl
 | g + 1,n,k => by
   unfold pwS pwF
   by_cases h0:n=0
   . rw[if_pos h0,if_pos h0]
   . rw[if_neg h0,if_neg h0,force_eq,pwS_eq p m md x g,mulMS_eq]
     by_cases h1:n % 2=1
     . rw[if_pos h1,if_pos h1,mulMS_eq]
     . rw[if_neg h1,if_neg h1]
def primS(p m:Nat)(md:List Nat)(n:Nat)(rs:List Nat)(x:Nat):Bool:=pwS p m md x 9 n (·==1) && rs.all fun r=>force (n / r) fun e=>pwS p m md x 9 e (· != 1)
theorem primS_eq(p m:Nat)(md:List Nat)(n:Nat)(b:List Nat)(x:Nat):primS p m md n b x=primT (mulM p m md) n b x:=by unfold primS primT;simp only[force_eq,pwS_eq]
def divRowS{α:Type}(p d:Nat)(low:List Nat)(i c:Nat)(r:List Nat):Nat->(List Nat->α)->α
 |0,k=>k r
 |j+1,k=>divRowS p d low i c r j fun s=>fl (addAt p s (i-d+j) ((p-c)*low.getD j 0)) k
theorem divRowS_eq{α:Type}(p d:Nat)(low:List Nat)(i c:Nat)(r:List Nat):∀(j:Nat)(k:List Nat->α),divRowS p d low i c r j k=k (divRow p d low i c r j)
 |0,_=>rfl
 |j+1,k=>by simp only[divRowS,divRowS_eq p d low i c r j,fl_eq];rfl
def divGoS{α:Type}(p:Nat)(low r:List Nat):Nat->(List Nat->α)->α
 |0,k=>k r
 |t+1,k=>divGoS p low r t fun s=>force (r.length-1-t) fun i=>force (s.getD i 0) fun c=>divRowS p low.length low i c s low.length fun u=>fl (u.set i 0) k
theorem divGoS_eq{α:Type}(p:Nat)(low r:List Nat):∀(t:Nat)(k:List Nat->α),divGoS p low r t k=k (divGo p low r t)
 |0,_=>rfl
 |t+1,k=>by simp only[divGoS,divGoS_eq p low r t,fl_eq,force_eq,divRowS_eq];rfl
def okV(p m:Nat)(rs:List Nat)(v d w:Nat):Bool:=
 fl (digs p m v) fun md=>if d=0 then w != 0 && Nat.blt w (p^m) && primS p m md (p^m-1) rs w
  else Nat.ble (2*d) m && Nat.blt w (p^d) && fl (digs p d w) fun low=>divGoS p low (md++[1]) (m+1-d) fun r=>r.all (·==0)
def chkV(p m:Nat)(rs:List Nat):Nat->List (Nat × Nat)->Bool
 |v,[]=>v==p^m
 |v,e :: r=>okV p m rs v e.1 e.2 && chkV p m rs (v+1) r
theorem okV_spec{p m:Nat}(r:1<p)(o:0<m)(s:p^m<=256){n:List Nat}(k:rsOK (p^m-1) n=true){v d w:Nat}(h:okV p m n v d w=true)(l:irrM p (digs p m v)=true):genM (mulM p m (digs p m v)) (p^m)≠[]:=by
 unfold okV at h;rw[fl_eq] at h;by_cases hd:d=0
 . rw[if_pos hd,primS_eq] at h;simp only[Bool.and_eq_true,bne_iff_ne,ne_eq,Nat.blt_eq] at h;have H:=qaV r o (digs p m v);exact genM_some H U0 h.1.2 (prim_of H k s h.2)
 . rw[if_neg hd,fl_eq,divGoS_eq] at h;simp only[Bool.and_eq_true,Nat.blt_eq,Nat.ble_eq] at h;obtain⟨⟨j,g⟩,i⟩:=h;exfalso;(have b:dividesM p (digs p d w) (digs p m v)=true:=by unfold dividesM;rw[qaK,qaK];exact i);unfold irrM at l;have c:=List.all_eq_true.1 l (d-1) (List.mem_range.2 (by rw[qaK];omega));rw[show d-1+1=d by omega] at c;have f:=List.all_eq_true.1 c w (List.mem_range.2 g);rw[b] at f;cases f
theorem chkV_spec{p m:Nat}{c:List Nat}:∀ (t:List (Nat × Nat)) (v u:Nat),chkV p m c v t=true->v<=u->u<p ^ m->∃ d w,okV p m c u d w=true
 |[],v,u,h,h1,h2=>by
   have:v=p^m:=by simpa[chkV] using h
   omega
 | e :: r,v,u,h,h1,h2 => by
   unfold chkV at h
   rw[Bool.and_eq_true] at h
   by_cases b:v=u
   . subst b
     exact⟨_,_,h.1⟩
   . exact chkV_spec r (v+1) u h.2 U0 h2
theorem qbS{p m:Nat}(i:1<p)(k:0<m)(o:p^m<=256){l:List Nat}{t:List (Nat × Nat)}(j:rsOK (p^m-1) l=true)(n:chkV p m l 0 t=true){md:List Nat}(g:Dig p m md):(genM (mulM p m md) (p^m)≠[]) ↔ irrM p md=true:=by
 constructor
 . intro h;exact irr_of_tab i md g (genM_tab (qaV i k md) h)
 . intro h;have b:0<p:=U0;have f:=val_lt b md g.2;have e:=qcR b md g.2;rw[g.1] at f e;obtain⟨d,w,c⟩:=chkV_spec t 0 (val p md) n (Nat.zero_le _) f;have:=okV_spec i k o j c (by rw[e];exact h);rw[e] at this;exact this
def primeB(n:Nat):Bool:=(List.range n).all fun d=>Nat.blt d 2 || n % d != 0
def divsOf(n:Nat):List Nat:=(List.range (n+1)).filter fun r=>Nat.ble 2 r && n % r==0 && primeB r
def okP(p x:Nat):Bool:=x != 0 && Nat.blt x p && fl (divsOf (p-1)) fun rs=>rsOK (p-1) rs && primS p 1 [0] (p-1) rs x
def chkP:List (Nat × Nat)->Bool:=fun t=>t.all fun e=>okP e.1 e.2
theorem okP_spec{p x:Nat}(b:p<=256)(h:okP p x=true):genM (mulM p 1 [0]) p≠[]:=by unfold okP at h;rw[fl_eq,primS_eq] at h;simp only[Bool.and_eq_true,bne_iff_ne,ne_eq,Nat.blt_eq] at h;have H:=qaV (p:=p) (m:=1) U0 U0 [0];rw[Nat.pow_one] at H;exact genM_some H U0 h.1.2 (prim_of H h.2.1 b h.2.2)
theorem ok_2_2:chkV 2 2 [3] 0 [(1,0),(1,1),(1,0),(0,2)]=true:=dk
theorem ok_2_3:chkV 2 3 [7] 0 [(1,0),(1,1),(1,0),(0,2),(1,0),(0,2),(1,0),(1,1)]=true:=dk
theorem ok_2_4:chkV 2 4 [3,5] 0 [(1,0),(1,1),(1,0),(0,2),(1,0),(2,3),(1,0),(1,1),(1,0),(0,2),(1,0),(1,1),(1,0),(1,1),(1,0),(0,3)]=true:=dk
theorem ok_2_5:chkV 2 5 [31] 0 [(1,0),(1,1),(1,0),(2,3),(1,0),(0,2),(1,0),(1,1),(1,0),(0,2),(1,0),(1,1),(1,0),(1,1),(1,0),(0,2),(1,0),(2,3),(1,0),(1,1),(1,0),(1,1),(1,0),(0,2),(1,0),(1,1),(1,0),(0,2),(1,0),(0,2),(1,0),(1,1)]=true:=dk
theorem ok_2_6:chkV 2 6 [3,7] 0 [(1,0),(1,1),(1,0),(0,2),(1,0),(3,3),(1,0),(1,1),(1,0),(0,3),(1,0),(1,1),(1,0),(1,1),(1,0),(2,3),(1,0),(3,5),(1,0),(1,1),(1,0),(1,1),(1,0),(0,3),(1,0),(1,1),(1,0),(0,2),(1,0),(2,3),(1,0),(1,1),(1,0),(0,2),(1,0),(1,1),(1,0),(1,1),(1,0),(0,2),(1,0),(1,1),(1,0),(2,3),(1,0),(0,2),(1,0),(1,1),(1,0),(1,1),(1,0),(0,2),(1,0),(0,3),(1,0),(1,1),(1,0),(2,3),(1,0),(1,1),(1,0),(1,1),(1,0),(3,3)]=true:=dk
theorem ok_2_7:chkV 2 7 [127] 0 [(1,0),(1,1),(1,0),(0,2),(1,0),(2,3),(1,0),(1,1),(1,0),(0,2),(1,0),(1,1),(1,0),(1,1),(1,0),(0,2),(1,0),(0,2),(1,0),(1,1),(1,0),(1,1),(1,0),(2,3),(1,0),(1,1),(1,0),(3,5),(1,0),(0,2),(1,0),(1,1),(1,0),(2,3),(1,0),(1,1),(1,0),(1,1),(1,0),(0,2),(1,0),(1,1),(1,0),(0,2),(1,0),(3,3),(1,0),(1,1),(1,0),(1,1),(1,0),(2,3),(1,0),(3,5),(1,0),(1,1),(1,0),(0,2),(1,0),(1,1),(1,0),(1,1),(1,0),(0,2),(1,0),(0,2),(1,0),(1,1),(1,0),(1,1),(1,0),(3,5),(1,0),(1,1),(1,0),(0,2),(1,0),(2,3),(1,0),(1,1),(1,0),(1,1),(1,0),(0,2),(1,0),(0,2),(1,0),(1,1),(1,0),(3,3),(1,0),(1,1),(1,0),(1,1),(1,0),(2,3),(1,0),(1,1),(1,0),(3,3),(1,0),(0,2),(1,0),(1,1),(1,0),(2,3),(1,0),(1,1),(1,0),(1,1),(1,0),(0,2),(1,0),(0,2),(1,0),(1,1),(1,0),(1,1),(1,0),(0,2),(1,0),(1,1),(1,0),(2,3),(1,0),(0,2),(1,0),(1,1)]=true:=dk
theorem ok_2_8:chkV 2 8 [3,5,17] 0 [(1,0),(1,1),(1,0),(2,3),(1,0),(4,3),(1,0),(1,1),(1,0),(3,3),(1,0),(1,1),(1,0),(1,1),(1,0),(3,5),(1,0),(2,3),(1,0),(1,1),(1,0),(1,1),(1,0),(4,9),(1,0),(1,1),(1,0),(0,3),(1,0),(0,2),(1,0),(1,1),(1,0),(3,5),(1,0),(1,1),(1,0),(1,1),(1,0),(2,3),(1,0),(1,1),(1,0),(0,2),(1,0),(0,2),(1,0),(1,1),(1,0),(1,1),(1,0),(3,3),(1,0),(2,3),(1,0),(1,1),(1,0),(0,3),(1,0),(1,1),(1,0),(1,1),(1,0),(0,3),(1,0),(4,9),(1,0),(1,1),(1,0),(1,1),(1,0),(3,3),(1,0),(1,1),(1,0),(2,3),(1,0),(0,2),(1,0),(1,1),(1,0),(1,1),(1,0),(3,5),(1,0),(4,15),(1,0),(1,1),(1,0),(2,3),(1,0),(1,1),(1,0),(1,1),(1,0),(0,2),(1,0),(1,1),(1,0),(0,2),(1,0),(0,2),(1,0),(1,1),(1,0),(0,2),(1,0),(1,1),(1,0),(1,1),(1,0),(2,3),(1,0),(0,2),(1,0),(1,1),(1,0),(1,1),(1,0),(0,3),(1,0),(1,1),(1,0),(0,9),(1,0),(2,3),(1,0),(1,1),(1,0),(2,3),(1,0),(1,1),(1,0),(1,1),(1,0),(0,2),(1,0),(1,1),(1,0),(0,6),(1,0),(0,2),(1,0),(1,1),(1,0),(1,1),(1,0),(2,3),(1,0),(3,3),(1,0),(1,1),(1,0),(3,5),(1,0),(1,1),(1,0),(1,1),(1,0),(0,3),(1,0),(1,1),(1,0),(0,3),(1,0),(2,3),(1,0),(1,1),(1,0),(0,2),(1,0),(1,1),(1,0),(1,1),(1,0),(3,3),(1,0),(0,6),(1,0),(1,1),(1,0),(1,1),(1,0),(2,3),(1,0),(1,1),(1,0),(4,3),(1,0),(0,7),(1,0),(1,1),(1,0),(1,1),(1,0),(0,2),(1,0),(3,5),(1,0),(1,1),(1,0),(2,3),(1,0),(1,1),(1,0),(1,1),(1,0),(0,2),(1,0),(4,3),(1,0),(1,1),(1,0),(1,1),(1,0),(0,7),(1,0),(1,1),(1,0),(2,3),(1,0),(0,6),(1,0),(1,1),(1,0),(3,3),(1,0),(1,1),(1,0),(1,1),(1,0),(0,2),(1,0),(1,1),(1,0),(3,5),(1,0),(2,3),(1,0),(1,1),(1,0),(1,1),(1,0),(0,6),(1,0),(0,2),(1,0),(1,1),(1,0),(0,3),(1,0),(1,1),(1,0),(1,1),(1,0),(2,3)]=true:=dk
theorem ok_3_2:chkV 3 2 [2] 0 [(1,0),(0,4),(1,1),(1,0),(1,2),(0,3),(1,0),(1,1),(0,3)]=true:=dk
theorem ok_3_3:chkV 3 3 [2,13] 0 [(1,0),(1,1),(1,2),(1,0),(1,2),(1,1),(1,0),(0,3),(0,6),(1,0),(1,2),(0,5),(1,0),(1,1),(0,4),(1,0),(0,3),(1,1),(1,0),(0,3),(1,1),(1,0),(0,3),(1,2),(1,0),(1,1),(0,4)]=true:=dk
theorem ok_3_4:chkV 3 4 [2,5] 0 [(1,0),(2,5),(1,1),(1,0),(1,2),(0,3),(1,0),(1,1),(0,3),(1,0),(1,1),(0,12),(1,0),(0,4),(1,1),(1,0),(0,5),(1,2),(1,0),(2,1),(0,4),(1,0),(1,1),(1,2),(1,0),(1,2),(1,1),(1,0),(1,2),(0,3),(1,0),(1,1),(2,1),(1,0),(0,4),(1,1),(1,0),(0,10),(1,1),(1,0),(0,5),(1,2),(1,0),(1,1),(0,3),(1,0),(1,1),(1,2),(1,0),(1,2),(1,1),(1,0),(2,8),(0,3),(1,0),(1,1),(0,3),(1,0),(0,4),(1,1),(1,0),(1,2),(2,1),(1,0),(0,10),(1,2),(1,0),(1,1),(0,3),(1,0),(0,4),(1,1),(1,0),(1,2),(1,1),(1,0),(2,5),(0,3),(1,0),(1,1),(1,2)]=true:=dk
theorem ok_3_5:chkV 3 5 [2,11] 0 [(1,0),(1,1),(1,2),(1,0),(1,2),(1,1),(1,0),(0,3),(0,6),(1,0),(1,2),(2,8),(1,0),(1,1),(0,4),(1,0),(2,1),(1,1),(1,0),(2,5),(1,1),(1,0),(0,3),(1,2),(1,0),(1,1),(2,1),(1,0),(1,2),(1,1),(1,0),(0,3),(0,6),(1,0),(1,1),(1,2),(1,0),(1,1),(0,4),(1,0),(2,8),(1,1),(1,0),(1,2),(0,6),(1,0),(0,3),(1,2),(1,0),(1,1),(2,5),(1,0),(0,3),(1,1),(1,0),(2,8),(2,5),(1,0),(1,1),(1,2),(1,0),(1,2),(1,1),(1,0),(0,3),(1,1),(1,0),(1,2),(0,5),(1,0),(1,1),(0,4),(1,0),(1,1),(0,4),(1,0),(0,3),(1,1),(1,0),(0,4),(1,2),(1,0),(1,2),(0,5),(1,0),(1,1),(0,4),(1,0),(0,3),(1,1),(1,0),(0,3),(1,1),(1,0),(0,3),(1,2),(1,0),(1,1),(0,4),(1,0),(1,1),(1,2),(1,0),(1,2),(1,1),(1,0),(2,1),(2,8),(1,0),(1,1),(2,1),(1,0),(0,3),(1,1),(1,0),(1,2),(2,5),(1,0),(2,5),(1,2),(1,0),(1,1),(2,8),(1,0),(0,3),(1,1),(1,0),(1,2),(1,1),(1,0),(0,3),(0,6),(1,0),(1,1),(1,2),(1,0),(0,3),(1,1),(1,0),(1,2),(2,1),(1,0),(1,1),(0,6),(1,0),(1,1),(0,4),(1,0),(0,3),(1,1),(1,0),(2,8),(1,2),(1,0),(0,3),(0,6),(1,0),(1,1),(1,2),(1,0),(1,2),(1,1),(1,0),(0,3),(1,1),(1,0),(0,3),(1,2),(1,0),(1,1),(0,5),(1,0),(1,1),(1,2),(1,0),(1,2),(1,1),(1,0),(2,5),(2,1),(1,0),(1,2),(0,5),(1,0),(1,1),(0,4),(1,0),(0,3),(1,1),(1,0),(2,1),(1,2),(1,0),(1,1),(0,4),(1,0),(2,8),(1,1),(1,0),(1,2),(1,1),(1,0),(0,3),(0,6),(1,0),(1,1),(1,2),(1,0),(1,1),(2,8),(1,0),(2,5),(1,1),(1,0),(1,2),(0,5),(1,0),(1,1),(0,4),(1,0),(2,1),(1,1),(1,0),(0,3),(1,2),(1,0),(0,3),(0,6),(1,0),(1,1),(1,2),(1,0),(1,2),(1,1),(1,0),(0,7),(1,1),(1,0),(1,2),(0,5),(1,0),(1,1),(2,5)]=true:=dk
theorem ok_5_2:chkV 5 2 [2,3] 0 [(1,0),(1,2),(0,6),(0,7),(1,1),(1,0),(0,7),(0,5),(1,2),(1,3),(1,0),(1,1),(1,3),(0,5),(0,8),(1,0),(1,4),(1,1),(0,5),(0,6),(1,0),(0,6),(0,5),(1,1),(1,2)]=true:=dk
theorem ok_5_3:chkV 5 3 [2,31] 0 [(1,0),(1,1),(1,3),(1,2),(1,4),(1,0),(0,9),(1,1),(1,4),(0,6),(1,0),(0,6),(1,2),(1,1),(0,7),(1,0),(1,3),(0,5),(0,5),(1,1),(1,0),(1,2),(0,5),(0,5),(1,3),(1,0),(0,7),(0,5),(1,3),(1,2),(1,0),(1,1),(1,4),(0,5),(0,6),(1,0),(1,4),(1,1),(1,2),(1,3),(1,0),(0,6),(1,3),(1,1),(0,8),(1,0),(0,6),(1,2),(0,5),(1,1),(1,0),(0,6),(1,4),(0,5),(1,1),(1,0),(1,4),(1,2),(0,5),(0,7),(1,0),(1,1),(0,5),(0,5),(1,2),(1,0),(1,2),(1,1),(1,3),(1,4),(1,0),(1,3),(0,5),(1,1),(0,8),(1,0),(1,2),(0,5),(1,1),(0,7),(1,0),(0,6),(0,5),(1,2),(1,1),(1,0),(1,3),(0,5),(0,5),(1,4),(1,0),(1,1),(1,2),(1,4),(1,3),(1,0),(0,7),(1,1),(0,5),(1,2),(1,0),(1,3),(1,1),(0,5),(0,6),(1,0),(0,6),(0,5),(1,1),(1,2),(1,0),(1,2),(1,3),(1,4),(1,1),(1,0),(0,7),(1,4),(1,2),(0,9),(1,0),(1,1),(0,5),(1,3),(0,6)]=true:=dk
theorem ok_7_2:chkV 7 2 [2,3] 0 [(1,0),(0,9),(0,8),(1,2),(0,8),(1,3),(1,1),(1,0),(1,3),(1,4),(0,7),(0,10),(1,2),(0,10),(1,0),(1,1),(0,10),(0,7),(1,3),(0,7),(1,4),(1,0),(0,11),(1,1),(1,4),(1,5),(0,7),(0,11),(1,0),(0,8),(1,5),(1,1),(1,2),(0,7),(0,8),(1,0),(1,6),(0,8),(0,7),(1,1),(0,7),(1,2),(1,0),(1,2),(1,3),(0,7),(0,9),(1,1),(0,9)]=true:=dk
theorem ok_11_2:chkV 11 2 [2,3,5] 0 [(1,0),(0,15),(1,3),(0,13),(0,14),(0,12),(1,4),(1,2),(1,5),(0,13),(1,1),(1,0),(0,15),(1,5),(1,6),(0,13),(1,3),(0,13),(0,11),(0,11),(1,2),(1,4),(1,0),(1,1),(0,16),(1,4),(0,14),(0,15),(0,11),(1,5),(1,3),(1,6),(0,14),(1,0),(1,5),(1,1),(0,16),(1,6),(1,7),(0,11),(1,4),(0,11),(0,12),(0,12),(1,0),(1,7),(0,11),(1,1),(1,2),(0,17),(1,5),(0,11),(0,16),(0,12),(1,6),(1,0),(0,12),(0,11),(0,13),(1,1),(1,6),(1,2),(0,17),(1,7),(1,8),(0,12),(1,0),(0,12),(0,11),(0,13),(1,7),(1,1),(1,8),(0,12),(1,2),(1,3),(0,18),(1,0),(1,3),(0,11),(1,8),(1,9),(0,13),(1,1),(0,11),(0,12),(0,14),(1,2),(1,0),(1,2),(1,9),(0,13),(1,3),(1,4),(0,11),(1,1),(0,11),(0,12),(0,14),(1,0),(1,10),(0,14),(1,2),(0,12),(0,13),(0,11),(1,3),(1,1),(1,4),(0,12),(1,0),(0,14),(1,4),(1,5),(0,12),(1,2),(0,12),(0,11),(0,11),(1,1),(1,3)]=true:=dk
theorem ok_13_2:chkV 13 2 [2,3,7] 0 [(1,0),(1,5),(0,15),(1,6),(1,3),(0,14),(0,14),(0,15),(0,17),(1,2),(1,4),(0,15),(1,1),(1,0),(1,4),(0,13),(0,17),(0,15),(0,15),(1,5),(1,3),(0,17),(1,6),(1,7),(1,2),(0,17),(1,0),(1,1),(1,6),(0,16),(1,7),(1,4),(0,13),(0,13),(0,16),(0,18),(1,3),(1,5),(0,16),(1,0),(0,18),(1,1),(1,5),(0,14),(0,18),(0,13),(0,13),(1,6),(1,4),(0,18),(1,7),(1,8),(1,0),(1,6),(0,13),(1,1),(1,2),(1,7),(0,13),(1,8),(1,5),(0,14),(0,14),(0,13),(0,19),(1,0),(0,19),(1,8),(1,9),(1,1),(0,19),(1,2),(1,6),(0,15),(0,19),(0,14),(0,13),(1,7),(1,0),(0,15),(0,13),(0,14),(0,20),(1,1),(1,7),(0,13),(1,2),(1,3),(1,8),(0,13),(1,9),(1,0),(0,16),(0,13),(0,15),(0,14),(1,8),(1,1),(0,13),(1,9),(1,10),(1,2),(0,13),(1,3),(1,0),(0,14),(1,3),(1,4),(1,9),(0,14),(1,10),(1,1),(0,16),(0,14),(0,15),(0,13),(1,2),(1,0),(1,2),(0,13),(1,10),(1,11),(1,3),(0,13),(1,4),(1,1),(0,17),(0,14),(0,13),(0,15),(1,0),(0,15),(1,11),(1,2),(0,17),(0,15),(0,13),(0,13),(1,3),(1,1),(0,15),(1,4),(1,5),(1,0),(1,12),(1,4),(0,14),(1,5),(1,2),(0,13),(0,13),(0,14),(0,16),(1,1),(1,3),(0,14),(1,0),(1,3),(0,13),(0,16),(0,14),(0,14),(1,4),(1,2),(0,16),(1,5),(1,6),(1,1),(0,16)]=true:=dk
theorem ok_primes:chkP [(2,1),(3,2),(5,2),(7,3),(11,2),(13,2),(17,3),(19,2),(23,5),(29,2),(31,3),(37,2),(41,6),(43,3),(47,5),(53,2),(59,2),(61,2),(67,2),(71,7),(73,5),(79,3),(83,2),(89,3),(97,5),(101,2),(103,5),(107,2),(109,6),(113,3),(127,3),(131,2),(137,3),(139,2),(149,2),(151,6),(157,5),(163,2),(167,5),(173,2),(179,2),(181,2),(191,19),(193,5),(197,2),(199,3),(211,2),(223,3),(227,2),(229,6),(233,3),(239,7),(241,7),(251,6)]=true:=dk
theorem primes_are:((List.range 257).all fun p=>!(Nat.ble 2 p && primeB p) || ([2,3,5,7,11,13,17,19,23,29,31,37,41,43,47,53,59,61,67,71,73,79,83,89,97,101,103,107,109,113,127,131,137,139,149,151,157,163,167,173,179,181,191,193,197,199,211,223,227,229,233,239,241,251]:List Nat).elem p)=true:=dk
def addD(p:Nat):Nat->Nat->Nat->Nat
 |0,_,_=>0
 |k+1,x,y=>(x % p+y % p) % p+p*addD p k (x / p) (y / p)
def negD(p:Nat):Nat->Nat->Nat
 |0,_=>0
 |k+1,x=>(p-x % p) % p+p*negD p k (x / p)
theorem addD_zero(p:Nat):∀k,addD p k 0 0=0
 |0=>rfl
 |k+1=>by simp[addD,addD_zero p k]
theorem negD_zero(p:Nat):∀k,negD p k 0=0
 |0=>rfl
 |k+1=>by simp[negD,negD_zero p k]
theorem addD_val(p:Nat):∀k x y,addD p k x y=val p (List.zipWith (fun a b=>(a+b) % p) (digs p k x) (digs p k y))
 |0,_,_=>rfl
 |k+1,x,y=>by simp[addD,digs,val,addD_val p k]
theorem negD_val(p:Nat):∀k x,negD p k x=val p ((digs p k x).map fun a=>(p-a) % p)
 |0,_=>rfl
 |k+1,x=>by simp[negD,digs,val,negD_val p k]
theorem lt_pow_succ{p k d r:Nat}(hd:d<p)(b:r<p^k):d+p*r<p^(k+1):=by rw[Nat.pow_succ,Nat.mul_comm (p^k) p];have:p*(r+1)<=p*p^k:=Nat.mul_le_mul_left _ b;rw[Nat.mul_add,Nat.mul_one] at this;omega
theorem qdR{p:Nat}(b:0<p):∀k x y,addD p k x y<p^k
 |0,_,_=>by simp[addD]
 |k+1,x,y=>lt_pow_succ (Nat.mod_lt _ b) (qdR b k _ _)
theorem qdP{p:Nat}(b:0<p):∀k x,negD p k x<p^k
 |0,_=>by simp[negD]
 |k+1,x=>lt_pow_succ (Nat.mod_lt _ b) (qdP b k _)
theorem xor_mod2(x y:Nat):(x ^^^ y) % 2=(x+y) % 2:=by have h:=@Nat.xor_mod_two_pow x y 1;simp only[Nat.pow_one] at h;rw[h];rcases Nat.mod_two_eq_zero_or_one x with hx|hx<;>rcases Nat.mod_two_eq_zero_or_one y with hy|hy<;>rw[hx,hy]<;>simp<;>omega
theorem xor_addD:∀ k x y,x<2 ^ k->y<2 ^ k->x ^^^ y=addD 2 k x y
 |0,x,y,hx,hy=>by
   simp at hx hy
   subst hx hy
   rfl
 |k + 1,x,y,hx,hy=>by
   have ih:=xor_addD k (x / 2) (y / 2) (by rw[Nat.pow_succ] at hx;omega) (by rw[Nat.pow_succ] at hy;omega)
   have b:(x ^^^ y) / 2=x / 2 ^^^ y / 2:=Nat.xor_div_two
   have c:(x ^^^ y) % 2=(x+y) % 2:=xor_mod2 x y
   simp only[addD]
   omega
structure Ops where
 add:Nat->Nat->Nat
 mul:Nat->Nat->Nat
 neg:Nat->Nat
 inv:Nat->Nat
def at2(rows:List (List Nat))(i c:Nat):Nat:=(rows.getD i []).getD c 0
def addRow(O:Ops)(v:List Nat)(a:Nat)(u:List Nat):List Nat:=List.zipWith (fun x y=>if y=0 then x else O.add x (O.mul a y)) v u
def scaleRow(O:Ops)(a:Nat)(v:List Nat):List Nat:=v.map (O.mul a)
def findRow(rows:List (List Nat))(c:Nat):Nat->Nat->Nat
 |0,k=>k
 |g+1,k=>if at2 rows k c=0 then findRow rows c g (k+1) else k
def swapRows(rows:List (List Nat))(i j:Nat):List (List Nat):=(rows.set i (rows.getD j [])).set j (rows.getD i [])
def normRow(O:Ops)(rows:List (List Nat))(i c:Nat):List (List Nat):=if at2 rows i c=1 then rows else rows.set i (scaleRow O (O.inv (at2 rows i c)) (rows.getD i []))
def clearGo(O:Ops)(c t:Nat)(rows:List (List Nat)):Nat->List (List Nat)
 |0=>rows
 |i+1=>if i≠t/\at2 (clearGo O c t rows i) i c≠0 then(clearGo O c t rows i).set i (addRow O ((clearGo O c t rows i).getD i []) (O.neg (at2 (clearGo O c t rows i) i c)) ((clearGo O c t rows i).getD t [])) else clearGo O c t rows i
structure ElS where
 rows:List (List Nat)
 piv:List Nat
def elStep(O:Ops)(c:Nat)(s:ElS):ElS:=
 if s.piv.length<s.rows.length then
  if findRow s.rows c (s.rows.length-s.piv.length) s.piv.length=s.rows.length then s
  else⟨clearGo O c s.piv.length (normRow O (swapRows s.rows s.piv.length (findRow s.rows c (s.rows.length-s.piv.length) s.piv.length)) s.piv.length c) s.rows.length,s.piv++[c]⟩
 else s
def elGo(O:Ops)(rows:List (List Nat)):Nat->ElS
 |0=>⟨rows,[]⟩
 |c+1=>elStep O c (elGo O rows c)
def canonM(O:Ops)(rows:List (List Nat))(cols:Nat):List (List Nat):=(elGo O rows cols).rows.take (elGo O rows cols).piv.length
def Grid(q n cols:Nat)(rows:List (List Nat)):Prop:=rows.length=n/\∀r∈rows,r.length=cols/\∀x∈r,x<q
structure OpsEq (q:Nat) (O O':Ops):Prop where
 add:∀x y,x<q->y<q->O.add x y=O'.add x y/\O.add x y<q
 mul:∀x y,x<q->y<q->O.mul x y=O'.mul x y/\O.mul x y<q
 neg:∀x,x<q->O.neg x=O'.neg x/\O.neg x<q
 inv:∀x,x<q->x≠0->O.inv x=O'.inv x/\O.inv x<q
section
variable {q n cols:Nat} {O O':Ops}
theorem Grid.row{rows:List (List Nat)}(h:Grid q n cols rows){i:Nat}(b:i<n):(rows.getD i []).length=cols/\∀x∈rows.getD i [],x<q:=by
 have:rows.getD i []=rows[i]'(by rw[h.1];exact b):=by simp[List.getD,h.1,b]
 rw[this];exact h.2 _ (List.getElem_mem _)
theorem Grid.at_{rows:List (List Nat)}(h:Grid q n cols rows){i c:Nat}(f:i<n)(g:c<cols):at2 rows i c<q:=by
 obtain⟨d,b⟩:=h.row f;unfold at2;have:(rows.getD i []).getD c 0=(rows.getD i [])[c]'U0:=by simp[List.getD,show c<(rows[i]?.getD []).length from by simpa[List.getD] using(by omega:c<(rows.getD i []).length)]
 rw[this];exact b _ (List.getElem_mem _)
theorem Grid.set{rows:List (List Nat)}(h:Grid q n cols rows)(i:Nat){r:List Nat}(b:r.length=cols/\∀x∈r,x<q):Grid q n cols (rows.set i r):=by
 refine⟨by simp[h.1],fun s hs=>?_⟩;rcases List.mem_or_eq_of_mem_set hs with h'|rfl
 . exact h.2 _ h'
 . exact b
theorem qdB(E:OpsEq q O O'){v u:List Nat}{a:Nat}(r:a<q)(p:∀ x∈v,x<q)(o:∀ x∈u,x<q):addRow O v a u=addRow O' v a u/\∀ x∈addRow O v a u,x<q:=by
 induction v generalizing u with
 |nil=>simp[addRow]
 | cons x v ih =>
  cases u with
  |nil=>simp[addRow]
  | cons y u =>
   have f:=p x (List.mem_cons_self ..);have h:=o y (List.mem_cons_self ..);obtain⟨d,g⟩:=ih (fun z b=>p z (List.mem_cons_of_mem _ b)) (fun z b=>o z (List.mem_cons_of_mem _ b));obtain⟨i,j⟩:=E.mul a y r h;obtain⟨k,l⟩:=E.add x (O.mul a y) f j;unfold addRow at d g ⊢;simp only[List.zipWith_cons_cons,d];refine⟨?_,?_⟩
   . by_cases c : y = 0
     . simp[c]
     . simp only[if_neg c];rw[k,i]
   . intro z b;rcases List.mem_cons.1 b with rfl | b
     . by_cases c : y = 0
       . simp only[if_pos c];exact f
       . simp only[if_neg c];exact l
     . rw[<- d] at b;exact g z b
theorem qeG(E:OpsEq q O O'){v:List Nat}{a:Nat}(c:a<q)(d:∀x∈v,x<q):scaleRow O a v=scaleRow O' a v/\∀x∈scaleRow O a v,x<q:=by unfold scaleRow;refine⟨List.map_congr_left fun x b=>(E.mul a x c (d x b)).1,fun z hz=>?_⟩;obtain⟨x,b,rfl⟩:=List.mem_map.1 hz;exact(E.mul a x c (d x b)).2
theorem qdF(rows:List (List Nat))(c:Nat):∀ g k,k<=findRow rows c g k/\findRow rows c g k<=k+g
 |0,k=>by simp[findRow]
 |g + 1,k=>by
   unfold findRow
   split
   . have:=qdF rows c g (k+1);omega
   . omega
theorem qcF(rows:List (List Nat))(c:Nat):∀ g k,findRow rows c g k<k+g->at2 rows (findRow rows c g k) c≠0
 |0,k=>by simp[findRow]
 |g + 1,k=>by
   unfold findRow
   split
   . intro h;exact qcF rows c g (k+1) U0
   . intro _;assumption
theorem qdC{rows:List (List Nat)}(h:Grid q n cols rows){i j:Nat}(b:i<n)(c:j<n):Grid q n cols (swapRows rows i j):=(h.set i (h.row c)).set j (h.row b)
theorem swap_at{rows:List (List Nat)}{i j:Nat}(b:i<rows.length)(c:j<rows.length):(swapRows rows i j).getD i []=rows.getD j []:=by
 unfold swapRows;by_cases h:i=j
 . subst h;simp[List.getD,b]
 . simp only[List.getD];rw[List.getElem?_set_ne U0,List.getElem?_set_self (by simpa using b)];rfl
theorem norm_eq(E:OpsEq q O O'){rows:List (List Nat)}(h:Grid q n cols rows){i c:Nat}(l:i<n)(p:c<cols)(o:at2 rows i c≠0):normRow O rows i c=normRow O' rows i c/\Grid q n cols (normRow O rows i c):=by
 obtain⟨j,k⟩:=E.inv _ (h.at_ l p) o;obtain⟨d,f⟩:=h.row l;obtain⟨b,g⟩:=qeG E k f;unfold normRow;rw[<- j,b];refine⟨rfl,?_⟩;split
 . exact h
 . rw[<- b];exact h.set i ⟨by unfold scaleRow;rw[List.length_map];exact d,g⟩
theorem qdJ(E:OpsEq q O O'){rows:List (List Nat)}(h:Grid q n cols rows){c t:Nat}(p:c<cols)(ht:t<n):∀ i,i<=n->clearGo O c t rows i=clearGo O' c t rows i/\Grid q n cols (clearGo O c t rows i)
 |0,_=>⟨rfl,h⟩
 | i + 1,hi => by
   obtain⟨e,g⟩:=qdJ E h p ht i U0
   obtain⟨m,o⟩:=E.neg _ (g.at_ (i:=i) U0 p)
   obtain⟨d,f⟩:=g.row (i:=i) U0
   obtain⟨k,l⟩:=g.row ht
   obtain⟨b,j⟩:=qdB E o f l
   unfold clearGo
   rw[<- e,<- m,b]
   refine⟨rfl,?_⟩
   split
   . rw[<- b]
     exact g.set i ⟨by unfold addRow;rw[List.length_zipWith,d,k,Nat.min_self],j⟩
   . exact g
theorem elStep_eq(E:OpsEq q O O'){c:Nat}(v:c<cols){s:ElS}(h:Grid q n cols s.rows):elStep O c s=elStep O' c s/\Grid q n cols (elStep O c s).rows:=by
 unfold elStep;by_cases f:s.piv.length<s.rows.length
 . simp only[if_pos f];have r:=qdF s.rows c (s.rows.length-s.piv.length) s.piv.length;by_cases g:findRow s.rows c (s.rows.length-s.piv.length) s.piv.length=s.rows.length
   . simp only[if_pos g];exact⟨trivial,h⟩
   . simp only[if_neg g];have b:=qcF s.rows c (s.rows.length-s.piv.length) s.piv.length U0;generalize findRow s.rows c (s.rows.length-s.piv.length) s.piv.length=k at *;have u:k<s.rows.length:=U0;have d:=h.1;have m:=qdC h (i:=s.piv.length) (j:=k) U0 U0;(have l:at2 (swapRows s.rows s.piv.length k) s.piv.length c≠0:=by unfold at2 at b ⊢;rw[swap_at U0 U0];exact b);obtain⟨o,p⟩:=norm_eq E m (i:=s.piv.length) U0 v l;obtain⟨c1,c2⟩:=qdJ E p (t:=s.piv.length) v U0 n (Nat.le_refl _);rw[d];exact⟨by rw[c1,o],c2⟩
 . simp only[if_neg f];exact⟨trivial,h⟩
theorem qdT(E:OpsEq q O O'){rows:List (List Nat)}(h:Grid q n cols rows):∀ c,c<=cols->elGo O rows c=elGo O' rows c/\Grid q n cols (elGo O rows c).rows
 |0,_=>⟨rfl,h⟩
 |c + 1,hc=>by
   obtain⟨e,g⟩:=qdT E h c U0
   have:=elStep_eq E (c:=c) U0 g
   unfold elGo
   rw[<- e]
   exact this
theorem canon_eq(E:OpsEq q O O'){rows:List (List Nat)}(h:Grid q n cols rows):canonM O rows cols=canonM O' rows cols:=by unfold canonM;rw[(qdT E h cols (Nat.le_refl _)).1]
end
end Go.Proofs.YtndipkplnkfoeaaGreat.Pln
namespace Go.Proofs.YtndipkplnkfoeaaGreat
section
variable {P:Program} {ops:Array Oper} {md:Region.Mode} {S:World->Prop}
def ResS(P:Program)(S:World->Prop)(v:Value):Result Next->Prop
 |.ok (.value u) w'=>u=v/\S w'
 |.ok .skip w'=>v=undef/\S w'
 |.ok (.enter f args) w'=>Calls P f args w' (fun e w''=>e=.returned v/\S w'')
 |_=>False
def YieldsS(P:Program)(ops:Array Oper)(S:World->Prop)(o:Oper)(v:Value)(a:Act):Prop:=
 (Region.wanted o (yielded ops a.tmps)=true/\∀w,S w->ResS P S v ((execOp a.eval o).run P w))\/
 (Region.wanted o (yielded ops a.tmps)=false/\v=undef)
theorem YieldsS.of_same{o:Oper}{v:Value}{a b:Act}(f:YieldsS P ops S o v a)(c:execOp b.eval o=execOp a.eval o)(d:Region.wanted o (yielded ops b.tmps)=Region.wanted o (yielded ops a.tmps)):YieldsS P ops S o v b:=by unfold YieldsS at *;rw[c,d];exact f
def wpKeep(P:Program)(ops:Array Oper)(S:World->Prop)(Q:Act->Prop):List Oper->Act->Prop
 |[],a=>Q a
 |o :: rest,a=>∃v,YieldsS P ops S o v a/\wpKeep P ops S Q rest (a.put o.dst v)
def kOp(P:Program)(ops:Array Oper)(S:World->Prop)(i:Nat)(K:Act->Prop)(a:Act):Prop:=
 match ops[i]? with
 |none=>K a
 |some o=>∃v,YieldsS P ops S o v a/\K (a.put o.dst v)
theorem kOp_mono{i:Nat}{a:Act}{K f:Act->Prop}(h:∀a,K a->f a)(d:kOp P ops S i K a):kOp P ops S i f a:=by
 unfold kOp at *;split
 . rename_i ho;simp only[ho] at d;exact h _ d
 . rename_i o ho;simp only[ho] at d;obtain⟨v,b,c⟩:=d;exact⟨v,b,h _ c⟩
theorem wpOp_of_kOp{i:Nat}{a:Act}{w:World}{K:Act->Prop}{p:Act->World->Prop}{Q':Exit->Act->World->Prop}(h:∀ a w,S w->K a->p a w)(m:S w)(l:kOp P ops S i K a):wpOp P ops Q' i p a w:=by
 unfold kOp at l;unfold wpOp;split
 . rename_i ho;simp only[ho] at l;exact h _ _ m l
 . rename_i o ho;simp only [ho] at l;obtain ⟨v,k,d⟩:=l;rcases k with ⟨g,j⟩ | ⟨g,rfl⟩
   . simp only [g,if_true];refine .inl ?_;have b:=j w m;unfold Oper.wp;generalize (execOp a.eval o).run P w=r at *;cases r with
     |ok n w'=>
      cases n<;>simp only[ResS] at b<;>simp only[Oper.upon];case value u=>obtain⟨rfl,c⟩:=b;exact h _ _ c d
      case skip=>obtain⟨rfl,c⟩:=b;exact h _ _ c d
      case enter f args=>exact b.mono fun e w'' ⟨he,c⟩=>by subst he;exact h _ _ c d
     |halt x w'=>simp only[ResS] at b
   . simp only[g];exact h _ _ m d
theorem kOp_put{j:Nat}{k l:Oper}{v:Value}(p:ops[j]?=some l)(m:k.apart ops l=true)(n:∀cs b,k.op≠.select cs b)(o:∀cs b,l.op≠.select cs b){K:Act->Prop}{a:Act}(q:YieldsS P ops S k v a)(h:kOp P ops S j K (a.put k.dst v)):
 kOp P ops S j (fun a'=>YieldsS P ops S k v a'/\K (a'.put k.dst v)) a:=by obtain⟨c,f,d⟩:=Oper.apart_spec m;unfold kOp at *;simp only[p] at *;obtain⟨u,i,g⟩:=h;refine⟨u,i.of_same (execOp_put l o a k.dst v c).symm (wanted_put l a k.dst v c).symm,q.of_same (execOp_put k n a l.dst u d) (wanted_put k a l.dst u d),?_⟩;rw[<- Act.put_comm a v u f];exact g
def wpAnyK(P:Program)(md:Region.Mode)(ops:Array Oper)(S:World->Prop)(Q:Act->Prop):Nat->Array Bool->Act->Prop
 |0,listed,a=>Region.ready md ops listed=[]/\Q a
 |fuel + 1,listed,a=>
   (Region.ready md ops listed=[]->Q a)/\
   ∀i∈Region.ready md ops listed,kOp P ops S i (wpAnyK P md ops S Q fuel (listed.setIfInBounds i true)) a
theorem wpAny_of_keep{Q:Act->Prop}{Q':Exit->Act->World->Prop}(b:∀a w,S w->Q a->Q' .normal a w):∀(fuel:Nat)(listed:Array Bool)(a:Act)(w:World),S w->
 wpAnyK P md ops S Q fuel listed a->wpAny P md ops Q' fuel listed a w
 |0,_,_,_,hS,h=>⟨h.1,b _ _ hS h.2⟩
 |fuel+1,_,_,_,hS,h=>⟨fun h0=>b _ _ hS (h.1 h0),fun i hi=>wpOp_of_kOp (fun a' w' hs=>wpAny_of_keep b fuel _ a' w' hs) hS (h.2 i hi)⟩
theorem wpAnyK_first{Q:Act->Prop}{i:Nat}{y:Oper}{v:Value}(z:ops[i]?=some y)(x:∀ (j:Nat) (o:Oper) cs b,ops[j]?=some o->o.op≠.select cs b):
 ∀(fuel:Nat)(listed:Array Bool)(a:Act),
  (∀j oj,ops[j]?=some oj->j≠i->listed.getD j true=false->(∀e∈oj.after,Region.binds md e=true->e.on≠i)->y.apart ops oj=true)->
  i∈Region.ready md ops listed->YieldsS P ops S y v a->
  wpAnyK P md ops S Q fuel (listed.setIfInBounds i true) (a.put y.dst v)->wpAnyK P md ops S Q (fuel+1) listed a:=by
 intro fuel;induction fuel with
 |zero=>
  intro listed a _ n s H;refine⟨fun h=>(by rw[h] at n;cases n),fun j hj=>?_⟩;by_cases c:j=i
  . subst c;unfold kOp;simp only[z];exact⟨v,s,H⟩
  . have:=ready_mono hj c;rw[H.1] at this;cases this
 | succ fuel ih =>
  intro listed a d n s H;refine⟨fun h=>(by rw[h] at n;cases n),fun j hj=>?_⟩;by_cases c:j=i
  . subst c;unfold kOp;simp only[z];exact⟨v,s,H⟩
  . have l := H.2 j (ready_mono hj c);obtain ⟨g,oj,m,p⟩:=mem_ready.1 hj;have r:∀ e∈oj.after,Region.binds md e=true->e.on≠i:=fun e he hb heq=>by
     have l:=p e he hb;have t:=(mem_ready.1 n).1;rw[heq] at l;rcases Nat.lt_or_ge i listed.size with h'|h'
     . simp[h'] at t l;rw[t] at l;cases l
     . simp[Array.getElem?_eq_none h'] at l
    have u:=kOp_put m (d j oj m c g r) (fun cs b=>x i y cs b z) (fun cs b=>x j oj cs b m) s l
    have f:∀k ok,ops[k]?=some ok->k≠i->(listed.setIfInBounds j true).getD k true=false->
     (∀e∈ok.after,Region.binds md e=true->e.on≠i)->y.apart ops ok=true:=fun k ok hk hki hun hno=>by
     refine d k ok hk hki ?_ hno
     by_cases q:j=k
     . subst q;exact g
     . rw[getD_set_ne true q] at hun;exact hun
    refine kOp_mono (fun a' h3=>ih (listed.setIfInBounds j true) a' f (ready_mono n (Ne.symm c)) h3.1 ?_) u;rw[Array.setIfInBounds_comm _ _ c];exact h3.2
theorem wpAnyK_lex{Q:Act->Prop}(i:Region.noSelect ops=true):∀ (l:List Oper) (k:Nat) (listed:Array Bool) (a:Act),(∀ j,l[j]?=ops[k+j]?) ->
 Region.lexFrom md ops l.length k listed=true->wpKeep P ops S Q l a->wpAnyK P md ops S Q l.length listed a
 |[],_,_,_,_,hB,h=>⟨by simpa[Region.lexFrom] using hB,h⟩
 | o :: l,k,listed,a,hl,hB,h => by
   have h0:ops[k]?=some o:=by simpa using(hl 0).symm
   simp only[List.length_cons,Region.lexFrom,Bool.and_eq_true] at hB
   obtain⟨⟨f,d⟩,b⟩:=hB
   obtain⟨v,g,c⟩:=h
   exact wpAnyK_first h0 (Region.noSelect_spec i) l.length listed a (Region.free_spec h0 d) (by simpa using f) g
    (wpAnyK_lex i l (k+1) _ _ (fun j=>by have:=hl (j+1);simpa[Nat.add_assoc,Nat.add_comm 1 j] using this) b c)
theorem qaD{i:Nat}{Q:Exit->Act->World->Prop}{a:Act}{w:World}{l:List Oper}(S:World->Prop)(g:P.follows .mixedOrders=true)(d:Region.lexB .any l.toArray=true)(f:S w.drew)(h:wpKeep P l.toArray S (fun a'=>∀w',S w'->Q .normal a' w') l a):(Code.region i l.toArray true).wp P Q a w:=by simp only[Region.lexB,Bool.and_eq_true] at d;refine wp_region_any g ?_;have b:=wpAnyK_lex (md:=.any) (S:=S) d.1 l 0 (Array.replicate l.toArray.size false) a U2 (by simpa using d.2) h;have c:=wpAny_of_keep (Q':=Q) (fun a w hs hq=>hq w hs) _ _ a { w with drawn:=w.drawn+1 } f b;simpa using c
def wpAnyKL(P:Program)(md:Region.Mode)(ops:Array Oper)(S:World->Prop)(n:Nat)(L:Array Bool->Act->Prop):Nat->Array Bool->Act->Prop
 |0,listed,a=>L listed a
 |f + 1,listed,a=>
   Region.ready md ops listed≠[]/\∀i∈Region.ready md ops listed,i<n/\kOp P ops S i (wpAnyKL P md ops S n L f (listed.setIfInBounds i true)) a
theorem qeD{n g:Nat}{L:Array Bool->Act->Prop}{Q':Exit->Act->World->Prop}(b:∀ listed a w,S w->L listed a->wpAny P md ops Q' g listed a w):
 ∀(f:Nat)(listed:Array Bool)(a:Act)(w:World),S w->wpAnyKL P md ops S n L f listed a->wpAny P md ops Q' (f+g) listed a w
 |0,listed,a,w,hS,h=>by rw[Nat.zero_add];exact b _ _ _ hS h
 |f + 1,listed,a,w,hS,h=>by
   rw[show f+1+g=(f+g)+1 by omega]
   exact⟨fun h0=>absurd h0 h.1,fun i hi=>wpOp_of_kOp (fun a' w' hs h'=>qeD b f _ a' w' hs h') hS (h.2 i hi).2⟩
theorem wpAnyKL_first{n i:Nat}{C:Oper}{v:Value}{L:Array Bool->Act->Prop}(E:ops[i]?=some C)(A:∀ (j:Nat) (o:Oper) cs b,ops[j]?=some o->o.op≠.select cs b)(K:Region.sinkB md ops n=true)(I:Region.chainB md ops n=true)(J:n<ops.size)(D:i<n)(B:∀ listed a,L listed a->∀ j∈Region.ready md ops listed,n<=j):
 ∀(f:Nat)(listed:Array Bool)(a:Act),HeadInv md ops n listed->
  (∀j oj,ops[j]?=some oj->j≠i->listed.getD j true=false->(∀e∈oj.after,Region.binds md e=true->e.on≠i)->C.apart ops oj=true)->
  i∈Region.ready md ops listed->YieldsS P ops S C v a->
  wpAnyKL P md ops S n L f (listed.setIfInBounds i true) (a.put C.dst v)->wpAnyKL P md ops S n L (f+1) listed a:=by
 intro f;induction f with
 |zero=>
  intro listed a inv _ q y H;have d:=(mem_ready.1 q).1;refine⟨fun h=>(by rw[h] at q;cases q),fun j hj=>?_⟩;have m:j<n:=by
   rcases Nat.lt_or_ge j n with h|h
   . exact h
   . exact absurd hj (tail_waits K I J inv _ i rfl D d j h)
  refine⟨m,?_⟩;by_cases c:j=i
  . subst c;unfold kOp;simp only[E];exact⟨v,y,H⟩
  . have:=B _ _ H j (ready_mono hj c);omega
 | succ f ih =>
  intro listed a inv g q y H;have d:=(mem_ready.1 q).1;refine⟨fun h=>(by rw[h] at q;cases q),fun j hj=>?_⟩;have m:j<n:=by
   rcases Nat.lt_or_ge j n with h|h
   . exact h
   . exact absurd hj (tail_waits K I J inv _ i rfl D d j h)
  refine⟨m,?_⟩;by_cases c:j=i
  . subst c;unfold kOp;simp only[E];exact⟨v,y,H⟩
  . have x := (H.2 j (ready_mono hj c)).2;obtain ⟨p,oj,r,s⟩:=mem_ready.1 hj;(have u:∀ e∈oj.after,Region.binds md e=true->e.on≠i:=fun e he hb heq=>by have x:=s e he hb;rw [heq,getD_both d] at x;cases x);have z:=kOp_put r (g j oj r c p u) (fun cs b=>A i C cs b E) (fun cs b=>A j oj cs b r) y x
    have l:∀k ok,ops[k]?=some ok->k≠i->(listed.setIfInBounds j true).getD k true=false->
     (∀e∈ok.after,Region.binds md e=true->e.on≠i)->C.apart ops ok=true:=fun k ok hk hki d hno=>by
     refine g k ok hk hki ?_ hno
     by_cases t:j=k
     . subst t;exact p
     . rw[getD_set_ne true t] at d;exact d
    refine kOp_mono (fun a' h3=>ih (listed.setIfInBounds j true) a' (inv.set hj m) l (ready_mono q (Ne.symm c)) h3.1 ?_) z;rw[Array.setIfInBounds_comm _ _ c];exact h3.2
theorem wpAnyKL_lex{n g:Nat}{s:Act->Prop}(r:Region.noSelect ops=true)(x:Region.sinkB md ops n=true)(t:Region.chainB md ops n=true)(u:n<ops.size):
 ∀(l:List Oper)(k:Nat)(listed:Array Bool)(a:Act),(∀j,j<l.length->l[j]?=ops[k+j]?)->k+l.length=n->HeadInv md ops n listed->
 Region.lexHead md ops g l.length k listed=true->wpKeep P ops S s l a->
 wpAnyKL P md ops S n (fun listed' a'=>Region.seqB md ops g n listed'=true/\s a') l.length listed a
 |[],k,listed,a,_,hk,_,hB,h=>by
   have:k=n:=by simpa using hk
   subst this
   exact⟨by simpa[Region.lexHead] using hB,h⟩
 | o :: l,k,listed,a,hl,hk,inv,hB,h => by
   have f:ops[k]?=some o:=by simpa using(hl 0 U2).symm
   simp only[List.length_cons,Region.lexHead,Bool.and_eq_true] at hB
   obtain⟨⟨p,m⟩,d⟩:=hB
   have b:k<n:=by simp only[List.length_cons] at hk;omega
   have c:k∈Region.ready md ops listed:=by simpa using p
   obtain⟨v,q,i⟩:=h
   exact wpAnyKL_first f (Region.noSelect_spec r) x t u b (fun listed' a' hL=>seqB_ready hL.1) l.length listed a inv (Region.free_spec f m) c q
    (wpAnyKL_lex r x t u l (k+1) _ _ (fun j hj=>by have:=hl (j+1) so;simpa[Nat.add_assoc,Nat.add_comm 1 j] using this) (by simp only[List.length_cons] at hk;omega) (inv.set c b) d i)
theorem qaI{v:Nat}{Q:Exit->Act->World->Prop}{a:Act}{w:World}{l:List Oper}(n:Nat)(S:World->Prop)(u:P.follows .mixedOrders=true)(r:Region.lexTailB .any l.toArray n=true)(s:S w.drew)(h:wpKeep P l.toArray S (fun a'=>∀w',S w'->wpList P l.toArray Q (l.drop n) a' w') (l.take n) a):(Code.region v l.toArray true).wp P Q a w:=by
 simp only[Region.lexTailB,Bool.and_eq_true,decide_eq_true_eq] at r;obtain⟨⟨⟨⟨f,m⟩,q⟩,o⟩,d⟩:=r;have p:n<l.length:=by simpa using m
 have b:(l.take n).length=n:=so;have c:(l.drop n).length=l.toArray.size-n:=U2
 have i:HeadInv .any l.toArray n (Array.replicate l.toArray.size false):=
  ⟨U2,fun j oj _ hl=>(by rw[getD_replicate_false] at hl;cases hl),fun t _ ht=>getD_in (by simpa using ht) (getD_replicate_false _ _)⟩
 have H:=wpAnyKL_lex (md:=.any) (S:=S) (g:=l.toArray.size-n) f q o m (l.take n) 0 _ a (fun j hj=>by
  have k:j<n:=by rw[b] at hj;exact hj
  simp[k]) (by simpa using b) i (by rw[b];exact d) h
 refine wp_region_any u ?_
 have:=qeD (Q':=Q) (g:=l.toArray.size-n) (fun listed a' w' hs' hL=>by
  have:=wpAny_of_seq (md:=.any) (Q':=Q) (l.drop n) n listed a' w' (fun j=>by simp[List.getElem?_drop]) (by rw[c];exact hL.1) (hL.2 w' hs')
  rwa [c] at this) _ _ a { w with drawn:=w.drawn+1 } s H
 rw[b,show n+(l.toArray.size-n)=l.toArray.size by omega] at this;exact this
theorem qaE{Q:Act->Prop}{a:Act}(h:Q a):wpKeep P ops S Q [] a:=h
theorem qaJ{Q:Act->Prop}{a:Act}{o:Oper}{rest:List Oper}{v:Value}(b:o.guard=none)(c:∀w,S w->(execOp a.eval o).run P w=.ok (.value v) w)(h:wpKeep P ops S Q rest (a.put o.dst v)):wpKeep P ops S Q (o :: rest) a:=
 ⟨v,.inl ⟨by simp[Region.wanted,b],fun w hS=>by rw[c w hS];exact⟨rfl,hS⟩⟩,h⟩
theorem qaO{Q:Act->Prop}{a:Act}{o:Oper}{rest:List Oper}{v:Value}{f:FuncId}{args:Array Value}(c:o.guard=none)(d:∀w,S w->(execOp a.eval o).run P w=.ok (.enter f args) w)(b:∀w,S w->Calls P f args w fun e w'=>e=.returned v/\S w')(h:wpKeep P ops S Q rest (a.put o.dst v)):wpKeep P ops S Q (o :: rest) a:=
 ⟨v,.inl ⟨by simp[Region.wanted,c],fun w hS=>by rw[d w hS];exact b w hS⟩,h⟩
theorem qbD{Q:Act->Prop}{a:Act}{o:Oper}{rest:List Oper}{v:Value}(b:Region.wanted o (yielded ops a.tmps)=true)(c:∀w,S w->(execOp a.eval o).run P w=.ok (.value v) w)(h:wpKeep P ops S Q rest (a.put o.dst v)):wpKeep P ops S Q (o :: rest) a:=
 ⟨v,.inl ⟨b,fun w hS=>by rw[c w hS];exact⟨rfl,hS⟩⟩,h⟩
theorem qcG{Q:Act->Prop}{a:Act}{o:Oper}{rest:List Oper}{v:Value}{f:FuncId}{args:Array Value}(c:Region.wanted o (yielded ops a.tmps)=true)(d:∀w,S w->(execOp a.eval o).run P w=.ok (.enter f args) w)(b:∀w,S w->Calls P f args w fun e w'=>e=.returned v/\S w')(h:wpKeep P ops S Q rest (a.put o.dst v)):wpKeep P ops S Q (o :: rest) a:=
 ⟨v,.inl ⟨c,fun w hS=>by rw[d w hS];exact b w hS⟩,h⟩
theorem qbI{Q:Act->Prop}{a:Act}{o:Oper}{rest:List Oper}(b:Region.wanted o (yielded ops a.tmps)=false)(h:wpKeep P ops S Q rest (a.put o.dst undef)):wpKeep P ops S Q (o :: rest) a:=
 ⟨undef,.inr ⟨b,rfl⟩,h⟩
end
end Go.Proofs.YtndipkplnkfoeaaGreat
namespace Go.Proofs.YtndipkplnkfoeaaGreat
open Go.RowKit
def orderM(p m:Int):Int:=if p<2\/256<p\/m<1\/8<m then 0 else if 256<p.toNat^m.toNat then 0 else((p.toNat^m.toNat:Nat):Int)
theorem qbQ{p m:Int}(h:p<2\/256<p\/m<1\/8<m):orderM p m=0:=by unfold orderM;rw[if_pos h]
theorem qbX{p m:Nat}(f:2<=p)(c:p<=256)(d:1<=m)(b:m<=8):orderM p m=if 256<p^m then 0 else((p^m:Nat):Int):=by unfold orderM;rw[if_neg U0];rfl
theorem qbZ{p k m:Nat}(b:2<=p)(h:k<=m):p^k<=p^m:=Nat.pow_le_pow_right U0 h
theorem qcX(p m:Int)(w:World):zC 96 #[Y p,Y m] w fun e w'=>e=.returned (Y (orderM p m))/\w=w':=by
 by_cases g:p<2
 . have b:=zH (qbQ (p:=p) (m:=m) (.inl g));go_enter Tryz.func96,Tryz.ntmps96;go_wp2_with fail;go_ret;exact⟨qaG b.out.symm,rfl⟩
 . by_cases d : 256 < p
   . have b:=zH (qbQ (p:=p) (m:=m) (.inr (.inl d)));go_enter Tryz.func96,Tryz.ntmps96;go_wp2_with fail;go_ret;exact⟨qaG b.out.symm,rfl⟩
   . by_cases r : m < 1
     . have b:=zH (qbQ (p:=p) (m:=m) (.inr (.inr (.inl r))));go_enter Tryz.func96,Tryz.ntmps96;go_wp2_with fail;go_ret;exact⟨qaG b.out.symm,rfl⟩
     . by_cases s : 8 < m
       . have b:=zH (qbQ (p:=p) (m:=m) (.inr (.inr (.inr s))));go_enter Tryz.func96,Tryz.ntmps96;go_wp2_with fail;go_ret;exact⟨qaG b.out.symm,rfl⟩
       . obtain ⟨p,rfl⟩ := Int.eq_ofNat_of_zero_le (by omega : 0 <= p);obtain ⟨m,rfl⟩:=Int.eq_ofNat_of_zero_le (by omega:0<=m);have n:2<=p:=U0;have c:p<=256:=U0;have v:1<=m:=U0;have h:m<=8:=U0;have l:=zH (qbX n c v h);go_enter Tryz.func96,Tryz.ntmps96;go_wp2_with fail;go_loop [5,21] (fun a i=>∃ k:Nat,k<=m/\p ^ k<=256/\i=Y k/\a=Y ((p ^ k:Nat):Int)) (fun _ i=>m-(intOf i).toNat);case atStart=>exact ⟨0,U0,U2,rfl,U2⟩
         case round =>
          obtain⟨k,A,x,rfl,rfl⟩:=hrel;by_cases u:k<m
          . have f : Hid (p ^ (k + 1) = p ^ k * p) := Nat.pow_succ _ _;have o:=zH (qbZ n (show k+1<=m by omega));generalize p ^ k=q at *;(have y:(q:Int)*(p:Int)<=65536:=by have:q*p<=256*256:=Nat.mul_le_mul x c;have d:((q*p:Nat):Int)=(q:Int)*(p:Int):=Int.natCast_mul _ _;omega);have t:0<=(q:Int)*(p:Int):=Int.mul_nonneg U0 U0;by_cases z:256<(q:Int)*(p:Int)
            . go_wp2_with fail;go_ret;refine⟨qaG ?_,rfl⟩;rw[l.out,if_pos];have g:=o.out;rw[f.out] at g;have d:((q*p:Nat):Int)=(q:Int)*(p:Int):=Int.natCast_mul _ _;omega
            . go_wp2_with fail;go_round;case rel=>exact⟨k+1,U0,by rw[f.out];have d:((q*p:Nat):Int)=(q:Int)*(p:Int):=Int.natCast_mul _ _;omega,gn,by rw[f.out,Int.natCast_mul]⟩
              case measure=>exact mE
          . (obtain rfl:k=m:=by omega);generalize j:p^k=q at *;clear j;go_wp2_with fail;go_ret;exact⟨qaG (by rw[l.out,if_neg U0]),rfl⟩
def primeP(n:Nat):Bool:=Nat.ble 2 n && Pln.primeB n
theorem primeP_iff(n:Nat):primeP n=true ↔ (2<=n/\∀ d,2<=d->d*d<=n->n % d≠0):=by
 unfold primeP Pln.primeB;rw[Bool.and_eq_true,Nat.ble_eq,List.all_eq_true];constructor
 . rintro⟨f,c⟩;refine⟨f,fun d hd hdd hz=>?_⟩;(have b:d<n:=by have:2*d<=d*d:=Nat.mul_le_mul_right d hd;omega);have:=c d (List.mem_range.2 b);simp only[Bool.or_eq_true,Nat.blt_eq,bne_iff_ne,ne_eq] at this;rcases this with h|h
   . omega
   . exact h hz
 . rintro ⟨f,c⟩;refine ⟨f,fun d hd=>?_⟩;have b:=List.mem_range.1 hd;simp only [Bool.or_eq_true,Nat.blt_eq,bne_iff_ne,ne_eq];by_cases i:d<2
   . exact .inl i
   . refine .inr fun hz => ?_;by_cases j:d*d<=n
     . exact c d U0 j hz
     . (have e : n = d * (n / d) := by have := Nat.div_add_mod n d;omega);generalize n / d=t at e;(have ht:t<d:=by refine Nat.lt_of_not_le fun hge=>?_;have:=Nat.mul_le_mul_left d hge;omega);have g:2<=t:=by
        rcases t with _|_|t
        . omega
        . omega
        . omega
       (have k:t*t<=n:=by rw[e];exact Nat.mul_le_mul_right t U0);exact c t g k (by rw[e];exact Nat.mul_mod_left d t)
theorem primeP_false{n:Nat}(h:¬(2<=n/\∀d,2<=d->d*d<=n->n % d≠0)):primeP n=false:=by rw[<- Bool.not_eq_true,primeP_iff];exact h
theorem isPrime_c(n:Nat)(x:n<=256)(w:World):zC 153 #[Y n] w fun e w'=>e=.returned (.bool (primeP n))/\w=w':=by
 go_enter Tryz.func153,Tryz.ntmps153;go_wp2_with fail;go_loop [3] (fun i=>∃d:Nat,2<=d/\d<=257/\i=Y d/\∀e,2<=e->e<d->e*e<=n->n % e≠0) (fun i=>300-(intOf i).toNat);case atStart=>exact⟨2,U0,U0,rfl,fun e h1 g=>U0⟩
 case round =>
  obtain⟨d,hd,j,rfl,k⟩:=hrel;have f:=zH k;clear k;have u:(d:Int)*(d:Int)<=66049:=by have:d*d<=257*257:=Nat.mul_le_mul j j;have g:((d*d:Nat):Int)=(d:Int)*(d:Int):=Int.natCast_mul _ _;omega
  have r:0<=(d:Int)*(d:Int):=Int.mul_nonneg U0 U0;have o:d<=d*d:=Nat.le_mul_of_pos_left d U0;have b:((d*d:Nat):Int)=(d:Int)*(d:Int):=Int.natCast_mul _ _;have q:=zH b;clear b;by_cases v:(d:Int)*(d:Int)<=(n:Int)
  . (have m : d * d <= n := by have := q.out;omega);by_cases c:(n:Int) % (d:Int)=0
    . have l:=zH c;(have p:((n:Int) % (d:Int)==0)=true:=by rw[c];rfl);clear c;go_wp2_with fail;go_ret;refine⟨qaN ?_,rfl⟩;refine(primeP_false ?_).symm;rintro⟨_,h⟩;exact h d hd m (by have:=l.out;omega)
    . have l := zH c;(have p:((n:Int) % (d:Int)==0)=false:=by simpa using c);clear c;go_wp2_with fail;go_round
      case rel=>exact ⟨d+1,U0,U0,gn,fun e h1 g h3=>by
       by_cases t:e=d
       . subst t
         have:=l.out
         omega
       . exact f.out e h1 U0 h3⟩
      case measure=>exact mE
  . by_cases g : 2 <= n
    . go_wp2_with fail;go_ret;refine⟨qaN ?_,rfl⟩;refine Eq.trans ?_ ((primeP_iff n).2 ⟨g,fun e h3 h4=>?_⟩).symm
      . simp;omega
      . have s:=q.out;refine f.out e h3 ?_ h4;refine Nat.lt_of_not_le fun hge=>?_;have:d*d<=e*e:=Nat.mul_le_mul hge hge;omega
    . go_wp2_with fail;go_ret;refine⟨qaN ?_,rfl⟩;refine Eq.trans ?_ (primeP_false (fun h3=>absurd h3.1 g)).symm;simp;omega
def nz(l:List Nat):List Int:=l.map fun x:Nat=>(x:Int)
theorem qaA(l:List Nat):(nz l).length=l.length:=by simp[nz]
theorem qaC(l:List Nat)(j:Nat):(nz l).getD j 0=((l.getD j 0:Nat):Int):=by unfold nz;simp only[List.getD,List.getElem?_map];cases l[j]?<;>simp
theorem qbC(l:List Nat)(j x:Nat):(nz l).set j (x:Int)=nz (l.set j x):=by simp[nz,List.map_set]
theorem nz_take(l:List Nat)(j:Nat):(nz l).take j=nz (l.take j):=by simp[nz,List.map_take]
theorem infoInt:(Tryz.prog.info? 3).map (fun i=>(i.zero,i.size,i.bytes))=some (some (Y 0),1,8):=U1
theorem qaF{P:Program}{t:TypeId}{z:Option Value}{s b:Nat}(h:(P.info? t).map (fun i=>(i.zero,i.size,i.bytes))=some (z,s,b)):∃i,P.info? t=some i/\i.zero=z/\i.size=s/\i.bytes=b:=by obtain⟨i,d,c⟩:=Option.map_eq_some_iff.1 h;simp only[Prod.mk.injEq] at c;exact⟨i,d,c.1,c.2.1,c.2.2⟩
theorem qaL{w w':World}(h:w.grownBy w' none):Below w.heap.size w w':=⟨h.os,h.tape,h.output,h.size,fun k hk=>h.block k hk U2⟩
def Row(w:World)(B g c:Nat)(zs:List Int):Prop:=w.ownsRow B 3 1 (zS g zs.length c) zs.length (zs.map (Value.int .i64))
section
variable {w w':World} {B g c:Nat} {zs:List Int}
theorem Row.cell(h:Row w B g c zs){j:Nat}(b:j<zs.length):w.cell? (zA g j)=some (Y (zs.getD j 0)):=by rw[World.ownsRow.cellAt h j U0];simp[List.getD,b]
theorem Row.frozen(h:Row w B g c zs)(j:Nat):w.frozen? (zA g j)=false:=World.ownsRow.frozenAt h j
theorem Row.lt(h:Row w B g c zs):B<=g/\g<w.heap.size:=World.ownsRow.lt h g rfl
theorem Row.set(h:Row w B g c zs)(j:Nat)(x:Int):Row (w.setCell (zA g j) (Y x)) B g c (zs.set j x):=by have:=(World.ownsRow.stored h j (Y x)).1;unfold Row;rw[List.length_set,List.map_set];exact this
theorem Row.grown{row:Option Nat}(h:Row w B g c zs)(d:w.grownBy w' row)(b:some g≠row):Row w' B g c zs:=World.ownsRow.kept h d (.inr b)
theorem Row.below(h:Row w B g c zs){B':Nat}(l:Below B' w w')(m:g<B'):Row w' B g c zs:=by
 refine⟨h.1,?_⟩;rcases h.2 with⟨i,_⟩|⟨d,b,cur,f,j,k,r⟩
 . cases i
 . (have:d=g:=by simp only[Value.slice.injEq,Option.some.injEq,Addr.mk.injEq,and_true,true_and] at f;exact f.1.symm);exact .inr ⟨d,b,cur,f,j,(l.block d U0).trans k,r⟩
theorem Row.far(h:Row w B g c zs){p:Addr}(l:g≠p.block)(u:Value):Row (w.setCell p u) B g c zs:=by
 refine⟨h.1,?_⟩;rcases h.2 with⟨i,_⟩|⟨d,b,cur,f,j,k,r⟩
 . cases i
 . (have:d=g:=by simp only[Value.slice.injEq,Option.some.injEq,Addr.mk.injEq,and_true,true_and] at f;exact f.1.symm);exact .inr ⟨d,b,cur,f,j,(Below.heap_setCell w p u d U0).trans k,r⟩
theorem Row.alloc(h:Row w B g c zs)(o:Obj):Row (w.alloc o) B g c zs:=World.ownsRow.alloc h o
theorem Row.base{B':Nat}(h:Row w B g c zs)(l:B'<=g):Row w B' g c zs:=by
 refine⟨h.1,?_⟩;rcases h.2 with⟨i,_⟩|⟨f,b,cur,d,k,j,r⟩
 . cases i
 . (have:f=g:=by simp only[Value.slice.injEq,Option.some.injEq,Addr.mk.injEq,and_true,true_and] at d;exact d.1.symm);exact .inr ⟨f,b,cur,d,U0,j,r⟩
theorem Row.cur(h:Row w B g c zs):∃cur:List Value,w.heap[g]?=some (.cells cur.toArray 3 (0,0))/\zs.length<=cur.length/\cur.take zs.length=zs.map (Value.int .i64)/\
 ∀(w':World)(cur':List Value)(zs':List Int),w'.heap[g]?=some (.cells cur'.toArray 3 (0,0))->cur'.length=cur.length->zs'.length=zs.length->cur'.take zs.length=zs'.map (Value.int .i64)->Row w' B g c zs':=by
 rcases h.2 with⟨d,_⟩|⟨n,f,cur,m,k,l,d,i,o,j⟩
 . cases d
 . have b:=m;simp only[Value.slice.injEq,Option.some.injEq,Addr.mk.injEq,and_true,true_and] at b;obtain⟨rfl,rfl⟩:=b;refine⟨cur.toList,by simpa using l,so,by simpa using j,fun w' cur' zs' e1 e2 e3 e4=>⟨by simp[e3],.inr ⟨g,c,cur'.toArray,by rw[e3],k,e1,U0,i,by simp[e2];omega,?_⟩⟩⟩;rw[e3];simpa using e4
theorem Row.of_make{n:Nat}(h:w.ownsRow B 3 1 (zS g n c) n (madeCells (Y 0).cells (n*1)).toList):Row w B g c (nz (List.replicate n 0)):=by
 unfold Row;have e:(madeCells (Y 0).cells (n*1)).toList=(nz (List.replicate n 0)).map (Value.int .i64):=by
  apply List.ext_getElem
  . simp[madeCells,nz]
  . intro i b d;simp[madeCells,nz,Value.cells,Nat.mod_one]
 rw[qaA,List.length_replicate,<- e];exact h
end
def IntsAt(w:World)(B:Nat)(A:Option Addr)(zs:List Int):Prop:=
 0<zs.length->∃b o,A=some (zA b o)/\b<B/\∀j,j<zs.length->w.cell? (zA b (o+j))=some (Y (zs.getD j 0))
theorem IntsAt.keep{w w':World}{B:Nat}{A:Option Addr}{zs:List Int}(h:IntsAt w B A zs)(f:Below B w w'):IntsAt w' B A zs:=fun hz=>by
 obtain⟨b,o,e,c,d⟩:=h hz
 exact⟨b,o,e,c,fun j hj=>(f.cell (p:=(zA b (o+j))) c).trans (d j hj)⟩
theorem IntsAt.more{w:World}{B B':Nat}{A:Option Addr}{zs:List Int}(h:IntsAt w B A zs)(f:B<=B'):IntsAt w B' A zs:=fun hz=>by
 obtain⟨b,o,e,d,c⟩:=h hz
 exact⟨b,o,e,U0,c⟩
theorem IntsAt.grow{w w':World}{B:Nat}{A:Option Addr}{zs:List Int}(h:IntsAt w B A zs)(b:B<=w.heap.size)(d:Below w.heap.size w w'):IntsAt w' B A zs:=h.keep (d.mono b)
theorem IntsAt.at_{w:World}{B:Nat}{A:Option Addr}{zs:List Int}(h:IntsAt w B A zs){k:Nat}(f:k<zs.length):∃b o,A=some (zA b o)/\b<B/\w.cell? (zA b (o+k))=some (Y (zs.getD k 0)):=by obtain⟨b,o,e,c,d⟩:=h U0;exact⟨b,o,e,c,d k f⟩
theorem Row.ints{w:World}{B g c B':Nat}{zs:List Int}(h:Row w B g c zs)(b:g<B'):IntsAt w B' (zO g) zs:=fun _=>
 ⟨g,0,rfl,b,fun j hj=>by rw[Nat.zero_add];exact h.cell hj⟩
end Go.Proofs.YtndipkplnkfoeaaGreat
namespace Go.Proofs.YtndipkplnkfoeaaGreat
open Go.RowKit Pln
theorem digs_snoc(p:Nat):∀ k x,digs p (k+1) x=digs p k x++[x / p ^ k % p]
 |0,x=>by simp[digs]
 |k + 1,x=>by
   have:=digs_snoc p k (x / p)
   rw[digs,this]
   simp only[digs,List.cons_append]
   rw[Nat.div_div_eq_div_mul,Nat.pow_succ,Nat.mul_comm p]
def dgK(p m x k:Nat):List Nat:=digs p k x++List.replicate (m-k) 0
theorem dgK_set(p m x k:Nat)(b:k<m):(dgK p m x k).set k (x / p^k % p)=dgK p m x (k+1):=by unfold dgK;rw[digs_snoc];rw[List.set_append_right _ _ (by rw[qaK];exact Nat.le_refl _),qaK,Nat.sub_self,show m-k=(m-(k+1))+1 by omega,List.replicate_succ];simp
theorem dgK_len(p m x k:Nat)(b:k<=m):(dgK p m x k).length=m:=by simp[dgK,qaK];omega
def RelDig(w:World)(p m x:Nat)(v0 v13:Value)(wr:World):Prop:=
 ∃k,k<=m/\v0=Y ((x / p^k:Nat):Int)/\v13=Y k/\Row wr w.heap.size w.heap.size m (nz (dgK p m x k))/\Below w.heap.size w wr
theorem qdD(x p m:Nat)(w:World)(Q:x<=1000000000)(S:1<=p)(P:p<=1000000000)(R:m<=1000):
 zC 199 #[Y x,Y p,Y m] w fun e w'=>e=.returned (zS w.heap.size m m)/\Row w' w.heap.size w.heap.size m (nz (digs p m x))/\Below w.heap.size w w':=by
 obtain⟨C,B,n,o,q⟩:=qaF infoInt;have E:=zH B;have v:=zH n;have z:=zH o;have s:=zH (show C.bytes*m<=281474976710656 by rw[q];omega);have t:=zH (show m<=maxLen by unfold maxLen;omega);clear B n o q;go_enter Tryz.func199,Tryz.ntmps199;go_wp2_with (refine wpList_make_full w rfl (.tmp 9) (.tmp 9) 23 rfl w.heap.size 3 C (Y 0) 1 Tryz.underlying23 E.out v.out z.out .i64 .i64 m m m rfl rfl rfl rfl s.out t.out (Nat.le_refl _) ?_;intro O d i);have u:=zH (Row.of_make d);have r:=zH (qaL i);clear d i;go_loopw [0,13] (fun v0 v13 wr=>RelDig w p m x v0 v13 wr) (fun _ v13 _=>m-(intOf v13).toNat);case atStart=>exact⟨0,U0,U2,rfl,u.out,r.out⟩
 case round =>
  obtain⟨k,J,rfl,rfl,b,A⟩:=hrel;have g:=zH b;have c:=zH A;have N:=b.frozen k;have D:Hid (x / p^(k+1)=x / p^k / p):=by rw[Nat.pow_succ,<- Nat.div_div_eq_div_mul];rfl
  have I:x / p^k<=1000000000:=Nat.le_trans (Nat.div_le_self _ _) Q;have H:=zH (fun h=>dgK_set p m x k h);have f:=zH (dgK_len p m x k J);by_cases l:k<m
  . have M:=b.cell (j:=k) (by rw[qaA,f.out];exact l);clear b A u r;generalize x / p^k=y at *;have K:0<=(y:Int) / (p:Int):=Int.ediv_nonneg U0 U0;have L:(y:Int) / (p:Int)<=(y:Int):=Int.ediv_le_self _ U0;go_wp2_with fail;go_roundw;case rel=>refine⟨k+1,U0,by rw[D.out];go_num,gn,?_,(c.out.setCell (Nat.le_refl _) _)⟩;rw[<- H.out l,<- qbC];exact g.out.set k _
    case measure=>exact mE
  . (obtain rfl:k=m:=by omega);clear b A u r;generalize x / p^k=y at *;go_wp2_with fail;go_ret;refine⟨rfl,?_,c.out⟩;have:=g.out;unfold dgK at this;rw[Nat.sub_self,List.replicate_zero,List.append_nil] at this;exact this
theorem val_drop(p:Nat)(l:List Nat)(k:Nat)(b:k<l.length):val p (l.drop k)=val p (l.drop (k+1))*p+l.getD k 0:=by rw[List.drop_eq_getElem_cons b,val,Nat.mul_comm,Nat.add_comm];simp[List.getD,b]
theorem val_drop_lt{p:Nat}(c:0<p){l:List Nat}(b:∀d∈l,d<p)(k:Nat):val p (l.drop k)<p^(l.length-k):=by have:=val_lt c (l.drop k) (fun d hd=>b d (List.mem_of_mem_drop hd));rwa [List.length_drop] at this
theorem valueOf_c(A:Option Addr)(l:List Nat)(c p:Nat)(w:World)(x:IntsAt w w.heap.size A (nz l))(C:1<=p)(B:∀ d∈l,d<p)(H:p ^ l.length<=1000000000)(E:p<=1000000000)(D:l.length<=1000):
 zC 200 #[zL A l.length c,Y p] w fun e w'=>e=.returned (Y ((val p l:Nat):Int))/\w=w':=by
 have n:=zH x;have q:=zH B;clear x B;go_enter Tryz.func200,Tryz.ntmps200;go_wp2_with fail;go_loop [5,6] (fun v5 v6=>∃k:Nat,k<=l.length/\v6=Y ((k:Int)-1)/\v5=Y ((val p (l.drop k):Nat):Int)) (fun _ v6=>(intOf v6+1).toNat);case atStart=>exact⟨l.length,Nat.le_refl _,rfl,by simp[val]⟩
 case round =>
  obtain⟨k,v,rfl,rfl⟩:=hrel;rcases k with _|k
  . go_wp2_with fail;go_ret;exact⟨qaG U2,rfl⟩
  . obtain⟨b,o,rfl,s,r⟩:=n.out.at_ (k:=k) (by rw[qaA];omega);rw[qaC] at r;have m:=zH (val_drop p l k U0);have i:=val_drop_lt C q.out k;have j:p^(l.length-k)<=p^l.length:=Nat.pow_le_pow_right C U0;have f:val p (l.drop k)<=1000000000:=U0;(have h:val p (l.drop (k+1))*p+l.getD k 0<=1000000000:=by rw[<- m.out];exact f);generalize val p (l.drop (k+1))=y at *;generalize l.getD k 0=z at *;(have u:(y:Int)*(p:Int)+(z:Int)<=1000000000:=by(have:((y*p+z:Nat):Int)=(y:Int)*(p:Int)+(z:Int):=by rw[Int.natCast_add,Int.natCast_mul]);omega);have t:0<=(y:Int)*(p:Int):=Int.mul_nonneg U0 U0;have g:((k+1:Nat):Int)-1=(k:Int):=U0;rw[g];clear i j f h;go_wp2_with fail;go_round;case rel=>exact⟨k,U0,rfl,by rw[m.out,Int.natCast_add,Int.natCast_mul]⟩
    case measure=>simp[intOf]
theorem valueOf_n(A:Option Addr)(l:List Nat)(n c p:Nat)(w:World)(g:IntsAt w w.heap.size A (nz l))(i:1<=p)(h:Pln.Dig p n l)(j:p^n<=1000000000)(f:p<=1000000000)(d:n<=1000):
 zC 200 #[zL A n c,Y p] w fun e w'=>e=.returned (Y ((val p l:Nat):Int))/\w=w':=by obtain⟨rfl,b⟩:=h;exact valueOf_c A l c p w g i b j f d
def ModAt(w:World)(B m:Nat)(A:Option Addr)(n:Nat)(md:List Nat):Prop:=(m=1/\md=[0])\/(1<m/\n=m/\md.length=m/\IntsAt w B A (nz md))
theorem ModAt.keep{w w':World}{B m:Nat}{A:Option Addr}{n:Nat}{md:List Nat}(h:ModAt w B m A n md)(b:Below B w w'):ModAt w' B m A n md:=by
 rcases h with h|⟨h1,h2,h3,h4⟩
 . exact .inl h
 . exact .inr ⟨h1,h2,h3,h4.keep b⟩
theorem ModAt.more{w:World}{B B' m:Nat}{A:Option Addr}{n:Nat}{md:List Nat}(h:ModAt w B m A n md)(b:B<=B'):ModAt w B' m A n md:=by
 rcases h with h|⟨h1,h2,h3,h4⟩
 . exact .inl h
 . exact .inr ⟨h1,h2,h3,h4.more b⟩
structure Small (p m:Nat):Prop where
 p1:2<=p
 p2:p<=256
 m1:1<=m
 m2:m<=8
 q:p^m<=256
def CutAB(w W0:World)(p m x y:Nat)(v7 v8:Value)(wx:World):Prop:=
 ∃ga gb,v7=zS ga m m/\v8=zS gb m m/\Row wx (w.heap.size+1) ga m (nz (digs p m x))/\Row wx (w.heap.size+1) gb m (nz (digs p m y))/\Below (w.heap.size+1) W0 wx
def MInv(w W0:World)(m ga gb go:Nat)(a b out:List Nat)(wr:World):Prop:=
 Row wr (w.heap.size+1) ga m (nz a)/\Row wr (w.heap.size+1) gb m (nz b)/\Row wr (w.heap.size+1) go m (nz out)/\ga<go/\gb<go/\Below (w.heap.size+1) W0 wr
def RelM(w W0:World)(p m:Nat)(md:List Nat)(ga gb go:Nat)(a b:List Nat)(v10:Value)(wr:World):Prop:=
 ∃k:Nat,k<=m/\v10=Y ((k:Int)-1)/\MInv w W0 m ga gb go a b (mulL p m md a (b.drop k)) wr
theorem MInv.set{w o:World}{m q r l:Nat}{a b n:List Nat}{wr:World}(h:MInv w o m q r l a b n wr)(j x:Nat):MInv w o m q r l a b (n.set j x) (wr.setCell (zA l j) (Y x)):=by obtain⟨g,i,c,d,f,k⟩:=h;refine⟨g.far (p:=(zA l j)) (Nat.ne_of_lt d) _,i.far (p:=(zA l j)) (Nat.ne_of_lt f) _,?_,d,f,k.setCell c.lt.1 _⟩;rw[<- qbC];exact c.set j x
def CopyInv(w W0:World)(m ga gb go:Nat)(a b out:List Nat)(wr:World):Prop:=MInv w W0 m ga gb go a b ((out.getD 0 0):: out.take (m-1)) wr
theorem mulL_drop(p m:Nat)(md a b:List Nat)(k:Nat)(c:k<b.length):mulL p m md a (b.drop k)=stepM p m md a (b.getD k 0) (mulL p m md a (b.drop (k+1))):=by
 rw[List.drop_eq_getElem_cons c];have:b.getD k 0=b[k]:=by simp[List.getD,c]
 rw[this];rfl
theorem sizeInt:(Tryz.prog.info? 3).map (·.size)=some 1:=U1
theorem copy_src{w:World}{B g c:Nat}{zs:List Int}(h:Row w B g c zs){n j:Nat}{v:Value}(f:((zs.take n).map (Value.int .i64))[j]?=some v):w.cell? ((⟨g,0,none⟩:Addr).add j)=some v:=by
 have b:j<zs.length:=by have:=(List.getElem?_eq_some_iff.1 f).1;simp at this;omega
 have e:(⟨g,0,none⟩:Addr).add j=(zA g j):=by rw[Addr.add_mid];simp
 rw[e,h.cell b];rw[List.getElem?_map,List.getElem?_take] at f;by_cases d:j<n
 . rw[if_pos d,List.getElem?_eq_getElem b] at f;simp only[Option.map_some] at f;rw[<- f];simp[List.getD,b]
 . rw[if_neg d] at f;cases f
theorem copy_inv{w C:World}{p m D E v:Nat}{a b r:List Nat}{wr y:World}{cur cs:List Value}(h:MInv w C m D E v a b r wr)(s:Dig p m r)(I:1<=m)(A:m<=cur.length)(t:cur.take (nz r).length=(nz r).map (Value.int .i64))(B:∀ (w':World) (cur':List Value) (zs':List Int),w'.heap[v]?=some (.cells cur'.toArray 3 (0,0))->cur'.length=cur.length->zs'.length=(nz r).length->cur'.take (nz r).length=zs'.map (Value.int .i64)->Row w' (w.heap.size+1) v m zs')(x:((nz r).take (m-1)).map (Value.int .i64)=cs)(H:y.heap[v]?=some (.cells (splice cur 1 cs).toArray 3 (0,0)))(z:Below v wr y):CopyInv w C m D E v a b r y:=by
 obtain⟨j,k,l,f,g,q⟩:=h;have d:=l.lt;have i:cs.length=m-1:=by rw[<- x,List.length_map,List.length_take,qaA,s.1];omega
 refine⟨j.below z f,k.below z g,?_,f,g,q.trans (z.mono d.1)⟩;refine B y _ _ H (length_splice _ _ _ U0) ?_ ?_
 . rw[qaA,qaA,s.1];simp[s.1];omega
 . rw [qaA,s.1] at t ⊢;unfold splice;obtain ⟨n,rfl⟩:∃ n,m=n+1:=⟨m-1,U0⟩;have c:=s.1;match r,c with
   | o :: os,c =>
     match cur,A with
     |u :: us,_=>
       simp only[List.take_succ_cons,nz,List.map_cons,List.cons.injEq] at t
       simp only[List.take_succ_cons,List.take_zero,List.cons_append,List.nil_append,List.getD_cons_zero,Nat.add_sub_cancel]
       rw[List.take_append_of_le_length U0,List.take_of_length_le U0,<- x,t.1,nz_take]
       simp[nz]
def innK(p m:Nat)(md a:List Nat)(bi:Nat)(out:List Nat)(j:Nat):List Nat:=(stepM p m md a bi out).take j++(0 :: out.take (m-1)).drop j
def RelI(w W0:World)(p m:Nat)(md:List Nat)(ga gb go:Nat)(a b:List Nat)(bi:Nat)(out:List Nat)(v54:Value)(wr:World):Prop:=
 ∃j:Nat,j<=m/\v54=Y j/\MInv w W0 m ga gb go a b (innK p m md a bi out j) wr
theorem qcK(p m:Nat)(md a:List Nat)(bi:Nat)(b:List Nat):(stepM p m md a bi b).length=m:=by simp[stepM]
theorem stepM_at(p m:Nat)(md a:List Nat)(bi:Nat)(b:List Nat)(j:Nat)(c:j<m):(stepM p m md a bi b).getD j 0=((if j=0 then 0 else b.getD (j-1) 0)+(p-b.getD (m-1) 0)*md.getD j 0+bi*a.getD j 0) % p:=by simp[stepM,List.getD,c]
theorem shl_len{m:Nat}{b:List Nat}(h:b.length=m)(c:1<=m):(0 :: b.take (m-1)).length=m:=by simp[h];omega
theorem innK_len{p m:Nat}{md a:List Nat}{bi:Nat}{b:List Nat}{j:Nat}(d:j<=m)(c:1<=m)(h:b.length=m):(innK p m md a bi b j).length=m:=by unfold innK;rw[List.length_append,List.length_take,List.length_drop,qcK,shl_len h c];omega
theorem innK_at(p m:Nat)(md a:List Nat)(bi:Nat)(c:List Nat)(j:Nat)(d:j<m)(h:c.length=m):(innK p m md a bi c j).getD j 0=if j=0 then 0 else c.getD (j-1) 0:=by
 unfold innK;have b:((stepM p m md a bi c).take j).length=j:=by rw[List.length_take,qcK];omega
 simp only[List.getD];rw[List.getElem?_append_right U0,b,Nat.sub_self,List.getElem?_drop,Nat.add_zero];rcases j with _|j
 . simp
 . simp only[List.getElem?_cons_succ,Nat.add_sub_cancel,if_neg (Nat.succ_ne_zero j)];rw[List.getElem?_take,if_pos U0]
theorem innK_set(p m:Nat)(md a:List Nat)(bi:Nat)(d:List Nat)(j:Nat)(f:j<m)(h:d.length=m):(innK p m md a bi d j).set j ((stepM p m md a bi d).getD j 0)=innK p m md a bi d (j+1):=by
 unfold innK;have b:((stepM p m md a bi d).take j).length=j:=by rw[List.length_take,qcK];omega
 have c:=shl_len h U0;rw[List.set_append_right _ _ U0,b,Nat.sub_self];rw[List.drop_eq_getElem_cons (i:=j) U0,List.set_cons_zero];rw[List.take_succ_eq_append_getElem (by rw[qcK];exact f),List.append_assoc];have:(stepM p m md a bi d).getD j 0=(stepM p m md a bi d)[j]'(by rw[qcK];exact f):=by rw[List.getD_eq_getElem?_getD,List.getElem?_eq_getElem (by rw[qcK];exact f)];rfl
 rw[this];rfl
theorem innK_end(p m:Nat)(md a:List Nat)(bi:Nat)(b:List Nat)(h:b.length=m)(c:1<=m):innK p m md a bi b m=stepM p m md a bi b:=by unfold innK;rw[List.take_of_length_le (by rw[qcK];exact Nat.le_refl _),List.drop_of_length_le (Nat.le_of_eq (shl_len h c)),List.append_nil]
theorem qaY(a b:Nat):Int.tmod (a:Int) (b:Int)=((a % b:Nat):Int):=by rw[Int.tmod_eq_emod_of_nonneg U0];rfl
theorem mul_le_256{a b:Nat}(d:a<=256)(f:b<=256):0<=(a:Int)*(b:Int)/\(a:Int)*(b:Int)<=65536:=by have:a*b<=256*256:=Nat.mul_le_mul d f;have c:((a*b:Nat):Int)=(a:Int)*(b:Int):=Int.natCast_mul _ _;omega
theorem MInv.drew{w l:World}{m n o p:Nat}{a b k:List Nat}{wr:World}(h:MInv w l m n o p a b k wr):MInv w l m n o p a b k wr.drew:=by obtain⟨c,d,f,g,i,j⟩:=h;exact⟨c,d,f,g,i,j.drew⟩
theorem multiply_n(p m x y:Nat)(A:Option Addr)(c:Nat)(md:List Nat)(w:World)(hs:Small p m)(de:1<m)(hM:IntsAt w w.heap.size A (nz md))(dd:md.length=m)(ax:∀ d∈md,d<p)(hx:x<p ^ m)(hy:y<p ^ m):
 zC 155 #[Ch p m A m c,Y x,Y y] w fun e w'=>e=.returned (Y ((mulM p m md x y:Nat):Int))/\Below w.heap.size w w':=by
 obtain⟨cz,c3,cx,cy,hq⟩:=hs;obtain⟨i0,hi,bc,bd,be⟩:=qaF infoInt;have HI:=zH hi;have bv:=zH bc;have bw:=zH bd;have bf:=zH (show i0.bytes*m<=281474976710656 by rw[be];omega);have bg:=zH (show m<=maxLen by unfold maxLen;omega);clear hi bc bd be;have HM:=zH hM;have ao:=zH dd;have br:=zH ax;clear hM dd ax;have c6:x<=256:=U0;have c7:y<=256:=U0;clear hx hy;go_enter Tryz.func155,Tryz.ntmps155;go_upto_region 1 with fail;have az:Below w.heap.size w (w.alloc (Ce p m A m c)):=(Below.refl _ _).alloc (Nat.le_refl _) _;have S:(w.alloc (Ce p m A m c)).heap[w.heap.size]?=some (Ce p m A m c):=heap_alloc_new _ _;have bb:(w.alloc (Ce p m A m c)).heap.size=w.heap.size+1:=U2;have ae:=zH az;have o:=zH S;have aa:=zH bb;clear az S bb;generalize w.alloc (Ce p m A m c)=u at *;have z0:u.cell? (zA w.heap.size 0)=some (Y p):=cell_of_row _ _ 0 _ _ _ o.out;have z1:u.cell? (zA w.heap.size 1)=some (Y m):=cell_of_row _ _ 1 _ _ _ o.out;go_cut [7,8] (fun v7 v8 wx=>CutAB w u p m x y v7 v8 wx);case first=>
  have ck:w.heap.size<u.heap.size:=by have:=aa.out;omega
  go_region_held3 (fun w'=>w'.cell? (zA w.heap.size 0)=some (Y p)/\w'.cell? (zA w.heap.size 1)=some (Y m)/\w.heap.size<w'.heap.size)
   (first|go_keep|(go_split_ands;first|exact⟨(hbd2.cell (p:=(zA w.heap.size 0)) am).trans am,(hbd2.cell (p:=(zA w.heap.size 1)) am).trans am,Nat.lt_of_lt_of_le am hbd2.size⟩|exact⟨(hbd1.cell (p:=(zA w.heap.size 0)) am).trans am,(hbd1.cell (p:=(zA w.heap.size 1)) am).trans am,Nat.lt_of_lt_of_le am hbd1.size⟩))
   (first|((with_reducible refine(qdD x p m _ U0 U0 U0 U0).mono ?_);rintro e P ⟨rfl,hrowa,hbd1⟩)|((with_reducible refine(qdD y p m _ U0 U0 U0 U0).mono ?_);rintro e cf ⟨rfl,hrowb,hbd2⟩))
  have hX:CutAB w u p m x y (zS u.heap.size m m) (zS P.heap.size m m) cf:=by have e:=aa.out;have R:Below u.heap.size u P:=⟨hbd1.os,hbd1.tape,hbd1.output,hbd1.size,hbd1.block⟩;have r1:Row P u.heap.size u.heap.size m (nz (digs p m x)):=hrowa;have c4:=hbd1.size;have l1:=r1.lt;refine⟨_,_,rfl,rfl,(r1.below hbd2 l1.2).base U0,hrowb.base (by have:u.heap.size<=P.heap.size:=R.size;omega),?_⟩;rw[<- e];exact R.trans (hbd2.mono R.size)
  have HX:=zH hX;clear hrowa hrowb hbd1 hbd2 hX;go_wp2_with fail;go_meet;exact HX.out
 case rest =>
  obtain⟨I,J,rfl,rfl,N,O,K⟩:=hcut;have X:=zH N;have Z:=zH O;have af:=zH K;have ad:w.heap.size+1<=wc.heap.size:=by have:=K.size;have:=aa.out;omega
  have y1:wc.cell? (zA w.heap.size 1)=some (Y m):=(K.cell (p:=(zA w.heap.size 1)) (by show w.heap.size < _;omega)).trans z1;clear N O K z0 z1;go_wp2_with (refine wpList_make_full wc rfl (.tmp 27) (.tmp 27) 23 rfl (w.heap.size+1) 3 i0 (Y 0) 1 Tryz.underlying23 HI.out bv.out bw.out .i64 .i64 m m m rfl rfl rfl rfl bf.out bg.out ad ?_;intro w1 V E;have x1:w1.cell? (zA w.heap.size 1)=some (Y m):=(E.cell y1 U2));have cd:=X.out.lt.2;have a9:=Z.out.lt.2
  have an:Hid (MInv w u m I J wc.heap.size (digs p m x) (digs p m y) (List.replicate m 0) w1):=
   ⟨X.out.grown E U2,Z.out.grown E U2,Row.of_make V,U0,U0,af.out.grown E ad (fun _ h=>by cases h)⟩
  clear V E cd a9 y1 X Z af;generalize wc.heap.size=l at *;clear ad;clear wc;go_loopw [10] (fun v10 wr=>RelM w u p m md I J l (digs p m x) (digs p m y) v10 wr) (fun v10 _=>(intOf v10+1).toNat);case atStart=>exact⟨m,Nat.le_refl _,U2,by rw[List.drop_of_length_le (by rw[qaK];exact Nat.le_refl _)];exact an.out⟩
  case round =>
   obtain⟨k,hk,rfl,q⟩:=hrel;have D:=zH q;have n:=zH q.2.2.2.2.2;have d0:wr.cell? (zA w.heap.size 0)=some (Y p):=(n.out.cell (p:=(zA w.heap.size 0)) (by show w.heap.size < _;omega)).trans (cell_of_row _ _ 0 _ _ _ o.out);have d1:wr.cell? (zA w.heap.size 1)=some (Y m):=(n.out.cell (p:=(zA w.heap.size 1)) (by show w.heap.size < _;omega)).trans (cell_of_row _ _ 1 _ _ _ o.out);clear q an x1;rcases k with _|k
   . have av:Hid (Row wr (w.heap.size+1) l m (nz (mulL p m md (digs p m x) (digs p m y)))):=D.out.2.2.1;have HD:=zH (qaW (m:=m) (by omega:0<p) md (digs p m x) (digs p m y));have b3:=av.out.lt.2;have HF:Hid (Below w.heap.size w wr):=ae.out.trans (n.out.mono (Nat.le_succ _));have HE:Hid (mulM p m md x y=val p (mulL p m md (digs p m x) (digs p m y))):=rfl;clear D n;generalize mulL p m md (digs p m x) (digs p m y)=L at *;go_wp2_with fail;(with_reducible refine(valueOf_n (zO l) L m m p wr (av.out.ints b3) U0 HD.out U0 U0 U0).mono ?_);rintro e w' ⟨rfl,rfl⟩;go_wp2_with fail;go_ret;exact⟨qaG (by rw[HE.out]),HF.out⟩
   . (have a5 : ((k + 1 : Nat) : Int) - 1 = (k : Int) := by omega);rw [a5];clear a5;have a6:k<m:=U0;obtain ⟨N,O,ba,a7,a8,ab⟩:=D.out;have bu:Hid (mulL p m md (digs p m x) ((digs p m y).drop k)=stepM p m md (digs p m x) ((digs p m y).getD k 0) (mulL p m md (digs p m x) ((digs p m y).drop (k+1)))):=mulL_drop p m md _ _ k (by rw [qaK];exact a6);have r:=zH (qaW (m:=m) (by omega:0<p) md (digs p m x) ((digs p m y).drop (k+1)));have aw:=zH (qcB (by omega:0<p) m x);have ay:=zH (qcB (by omega:0<p) m y);have HK:Hid (MInv w u m I J l (digs p m x) (digs p m y) (mulL p m md (digs p m x) ((digs p m y).drop (k+1))) wr):=D.out;clear D;generalize mulL p m md (digs p m x) ((digs p m y).drop (k+1))=f at *;have bs:Hid (digs p m x=digs p m x):=rfl;generalize bz:digs p m x=s at *;generalize b2:digs p m y=g at *;clear bz b2 bs;obtain ⟨i,C⟩:∃ t,f.getD (m-1) 0=t:=⟨_,rfl⟩;have Q:=zH C;(have t0:wr.cell? (zA l (m-1))=some (Y (i:Int)):=by rw [<- C,<- qaC];exact ba.cell (by rw [qaA,r.out.1];omega));clear N O ba ab a7 a8 C;go_upto_region 7 with fail;go_cut [49] (fun v wx=>CopyInv w u m I J l s g f wx);case first => obtain ⟨cur,U,M,a3,H⟩:=HK.out.2.2.1.cur;have ai:=zH U;have cq:=zH M;have bn:=zH a3;have bt:=zH H;(have a2:m<=cur.length:=by rw [qaA,r.out.1] at M;exact M);(have ah:Hid ((((nz f).take (m-1)).map (Value.int .i64)).length=m-1):=by show _=_;rw [List.length_map,List.length_take,qaA,r.out.1];omega);(have bh:Hid (∀ v∈((nz f).take (m-1)).map (Value.int .i64),v.oneCell'=true):=fun v hv=>by obtain ⟨z,_,rfl⟩:=List.mem_map.1 hv;rfl);have bj:Hid (∀ (j:Nat) (v:Value),(((nz f).take (m-1)).map (Value.int .i64))[j]?=some v->wr.cell? ((⟨l,0,none⟩:Addr).add j)=some v):=fun j v hv=>copy_src HK.out.2.2.1 hv;clear U M a3 H t0;have j1:(1:Int)<=(m:Int):=U0;have j2:¬ m=1:=U0;have j3:(m:Int)-1<=(m:Int):=U0;have j5:((m:Int)-1).toNat=m-1:=U0;have j7:(0:Int)<=(m:Int)-1:=U0;generalize T:((nz f).take (m-1)).map (Value.int .i64)=cs at *;have bm:=zH T;clear T;(have al:Hid (1+cs.length<=cur.length):=by show _<=_;rw [ah.out];omega);have j6:IntKind.i64.wrap ((m:Int)-1)=(m:Int)-1:=IntWalk.i64_in _ U0;go_region_law (refine step_copy_splice rfl (.tmp 43) (.tmp 48) 23 23 rfl 3 Tryz.underlying23 sizeInt _ _ _ _ _ _ rfl rfl l 1 cur 3 ai.out cs (by rw [ah.out];simp) (fun b9=>⟨rfl,(zA l 0),rfl,bj.out⟩) al.out bh.out l wr (Below.refl _ _).drew (Nat.le_refl _) ?_;intro w4 a4 a1);clear j6;have HX:Hid (CopyInv w u m I J l s g f w4):=copy_inv HK.out r.out U0 a2 bn.out bt.out bm.out a4.out a1;clear a4 a1;go_wp2_with fail;go_meet;exact HX.out
     case rest =>
      have HC:Hid (MInv w u m I J l s g (f.getD 0 0 :: f.take (m-1)) wc):=hcut;have f0:wc.frozen? (zA l 0)=false:=HC.out.2.2.1.frozen 0;(have c0:wc.cell? (zA l 0)=some (Y ((f.getD 0 0:Nat):Int)):=by have:=HC.out.2.2.1.cell (j:=0) (by simp[nz]);rw[this,qaC];rfl);clear hcut HK n d0 d1 t0;clear wr;go_wp2_with fail;(have ag:Hid (MInv w u m I J l s g (innK p m md s (g.getD k 0) f 0) (wc.setCell (zA l 0) (Y 0))):=by have:=HC.out.set 0 0;exact this);clear HC f0 c0;generalize wc.setCell (zA l 0) (Y 0)=wd at *;clear wc;have bq:=zH (fun j hj=>innK_set p m md s (g.getD k 0) f j hj r.out.1);have bo:=zH (fun j hj=>innK_at p m md s (g.getD k 0) f j hj r.out.1);have bp:=zH (innK_end p m md s (g.getD k 0) f r.out.1 U0);(have co:i<p:=by rw[<- Q.out];exact getD_lt U0 r.out _);have ct:g.getD k 0<p:=getD_lt U0 ay.out _;(have au:Hid (∀j,j<m->(stepM p m md s (g.getD k 0) f).getD j 0=((if j=0 then 0 else f.getD (j-1) 0)+(p-i)*(md:List Nat).getD j 0+g.getD k 0*s.getD j 0) % p):=fun j hj=>by rw[<- Q.out];exact stepM_at p m md s (g.getD k 0) f j hj);go_loopw [54] (fun v54 wr=>RelI w u p m md I J l s g (g.getD k 0) f v54 wr) (fun v54 _=>m-(intOf v54).toNat);case atStart=>exact⟨0,U0,rfl,ag.out⟩
      case round =>
       obtain⟨j,hj,rfl,q⟩:=hrel;have D:=zH q;have n:=zH q.2.2.2.2.2;clear q ag;have d0:wr.cell? (zA w.heap.size 0)=some (Y p):=(n.out.cell (p:=(zA w.heap.size 0)) (by show w.heap.size < _;omega)).trans (cell_of_row _ _ 0 _ _ _ o.out);have d1:wr.cell? (zA w.heap.size 1)=some (Y m):=(n.out.cell (p:=(zA w.heap.size 1)) (by show w.heap.size < _;omega)).trans (cell_of_row _ _ 1 _ _ _ o.out);by_cases B:j<m
       . have HL := zH (innK_len (p := p) (md := md) (a := s) (bi := g.getD k 0) (Nat.le_of_lt B) U0 r.out.1);(have q0:wr.cell? (zA l j)=some (Y ((if j=0 then 0 else f.getD (j-1) 0:Nat):Int)):=by rw [<- bo.out j B,<- qaC];exact D.out.2.2.1.cell (by rw [qaA,HL.out];exact B));(have q1:wr.cell? (zA I j)=some (Y ((s.getD j 0:Nat):Int)):=by rw [<- qaC];exact D.out.1.cell (by rw [qaA,aw.out.1];exact B));(have q2:wr.cell? (zA J k)=some (Y ((g.getD k 0:Nat):Int)):=by rw [<- qaC];exact D.out.2.1.cell (by rw [qaA,ay.out.1];exact a6));have f0:wr.frozen? (zA l j)=false:=D.out.2.2.1.frozen j;have c5:(if j=0 then 0 else f.getD (j-1) 0)<p:=by
          split
          . omega
          . exact getD_lt U0 r.out _
         have cr:s.getD j 0<p:=getD_lt U0 aw.out _;have ar:=zH (au.out j B);have aq:=zH (bq.out j B);obtain⟨mb,mo,rfl,b7,b8⟩:=(HM.out.keep (ae.out.trans (n.out.mono (Nat.le_succ _)))).at_ (k:=j) (by rw[qaA,ao.out];exact B);rw[qaC] at b8;have d2:wr.cell? (zA w.heap.size 2)=some (zL (some (zA mb mo)) m c):=(n.out.cell (p:=(zA w.heap.size 2)) (by show w.heap.size < _;omega)).trans (cell_of_row _ _ 2 _ _ _ o.out);have cw:md.getD j 0<p:=getD_lt U0 ⟨ao.out,br.out⟩ _;generalize b6:md.getD j 0=W at *;clear b6 b7;generalize ce:(if j=0 then 0 else f.getD (j-1) 0)=sj at *;generalize bx:s.getD j 0=aj at *;generalize b1:g.getD k 0=bk at *;clear ce bx b1;have a0:=mul_le_256 (a:=p-i) (b:=W) U0 U0;have b0:=mul_le_256 (a:=bk) (b:=aj) U0 U0;have ac:((p-i:Nat):Int)=(p:Int)-(i:Int):=U0;rw[ac] at a0;obtain⟨cg,ch⟩:=a0;obtain⟨ci,cj⟩:=b0;(have ap:Hid (Int.tmod ((sj:Int)+((p:Int)-(i:Int))*(W:Int)+(bk:Int)*(aj:Int)) (p:Int)=(((stepM p m md s bk f).getD j 0:Nat):Int)):=by show _=_;rw[ar.out,<- qaY];congr 1;rw[Int.natCast_add,Int.natCast_add,Int.natCast_mul,Int.natCast_mul,ac]);clear ac ar;generalize H:(stepM p m md s bk f).getD j 0=res at *;have c8:(0:Int)<=(j:Int):=U0;have c9:(j:Int)<((m:Nat):Int):=U0;have da:(0:Int)<=(k:Int):=U0;have db:(k:Int)<((m:Nat):Int):=U0;have b9:((p:Int)==0)=false:=so;have R:IntKind.i64.wrap ((p:Int)-(i:Int))=(p:Int)-(i:Int):=IntWalk.i64_in _ U0;have e2:IntKind.i64.wrap (((p:Int)-(i:Int))*(W:Int))=((p:Int)-(i:Int))*(W:Int):=IntWalk.i64_in _ U0;have e3:IntKind.i64.wrap ((sj:Int)+((p:Int)-(i:Int))*(W:Int))=(sj:Int)+((p:Int)-(i:Int))*(W:Int):=IntWalk.i64_in _ U0;have e4:IntKind.i64.wrap ((bk:Int)*(aj:Int))=(bk:Int)*(aj:Int):=IntWalk.i64_in _ U0;have e5:IntKind.i64.wrap ((sj:Int)+((p:Int)-(i:Int))*(W:Int)+(bk:Int)*(aj:Int))=(sj:Int)+((p:Int)-(i:Int))*(W:Int)+(bk:Int)*(aj:Int):=IntWalk.i64_in _ U0;have cl:¬p=0:=U0;have cm:¬(p:Int)=0:=U0;(have cn:res<p:=by rw[<- H];exact getD_lt U0 (stepM_dig (m:=m) U0 md s bk f) j);have e7:IntKind.i64.wrap (res:Int)=(res:Int):=IntWalk.i64_in _ U0;have E7:=zH e7;clear e7 H;have E1:=zH R;have E2:=zH e2;have E3:=zH e3;have E4:=zH e4;have E5:=zH e5;clear R e2 e3 e4 e5;go_upto_region 15 with fail;have R:=E1.out;have e2:=E2.out;have e3:=E3.out;have e4:=E4.out;have e5:=E5.out;have e6:=ap.out;have e7:=E7.out;go_still_tail 27,U1;change wpList _ _ _ _ _ wr.drew;have g0:wr.drew.cell? (zA l j)=some (Y (sj:Int)):=q0;have g1:wr.drew.frozen? (zA l j)=false:=f0;clear R e2 e3 e4 e5 e6 e7 q0 q1 q2 f0 d0 d1;go_wp2_with fail;(have ak:Hid (MInv w u m I J l s g (innK p m md s bk f (j+1)) (wr.drew.setCell (zA l j) (Y (res:Int)))):=by rw[<- aq.out];exact MInv.set (MInv.drew D.out) j res);go_roundw;case rel=>exact⟨j+1,U0,gn,ak.out⟩
         case measure=>exact mE
       . (obtain rfl : j = m:=by omega);rw[bp.out,<- bu.out] at D;clear d0 d1 n;go_wp2_with fail;go_roundw;case rel=>exact⟨k,U0,gn,D.out⟩
         case measure=>simp[intOf]
theorem multiply_1(p m x y:Nat)(A:Option Addr)(n c:Nat)(w:World)(hs:Small p m)(ax:m<=1)(hx:x<p ^ m)(hy:y<p ^ m):
 zC 155 #[Ch p m A n c,Y x,Y y] w fun e w'=>e=.returned (Y ((mulM p m [0] x y:Nat):Int))/\Below w.heap.size w w':=by
 obtain⟨cq,cr,cn,co,hq⟩:=hs;obtain⟨i0,hi,a9,ba,bb⟩:=qaF infoInt;have HI:=zH hi;have bs:=zH a9;have bt:=zH ba;have bd:=zH (show i0.bytes*m<=281474976710656 by rw[bb];omega);have be:=zH (show m<=maxLen by unfold maxLen;omega);clear hi a9 ba bb;have X:=zH ax;clear ax;have cx:x<=256:=U0;have cy:y<=256:=U0;clear hx hy;go_enter Tryz.func155,Tryz.ntmps155;go_upto_region 1 with fail;have av:Below w.heap.size w (w.alloc (Ce p m A n c)):=(Below.refl _ _).alloc (Nat.le_refl _) _;have S:(w.alloc (Ce p m A n c)).heap[w.heap.size]?=some (Ce p m A n c):=heap_alloc_new _ _;have a8:(w.alloc (Ce p m A n c)).heap.size=w.heap.size+1:=U2;have bc:=zH av;have q:=zH S;have ab:=zH a8;clear av S a8;generalize w.alloc (Ce p m A n c)=r at *;have z0:r.cell? (zA w.heap.size 0)=some (Y p):=cell_of_row _ _ 0 _ _ _ q.out;have z1:r.cell? (zA w.heap.size 1)=some (Y m):=cell_of_row _ _ 1 _ _ _ q.out;go_cut [7,8] (fun v7 v8 wx=>CutAB w r p m x y v7 v8 wx);case first=>
  have b9:w.heap.size<r.heap.size:=by have:=ab.out;omega
  go_region_held3 (fun w'=>w'.cell? (zA w.heap.size 0)=some (Y p)/\w'.cell? (zA w.heap.size 1)=some (Y m)/\w.heap.size<w'.heap.size)
   (first|go_keep|(go_split_ands;first|exact⟨(hbd2.cell (p:=(zA w.heap.size 0)) am).trans am,(hbd2.cell (p:=(zA w.heap.size 1)) am).trans am,Nat.lt_of_lt_of_le am hbd2.size⟩|exact⟨(hbd1.cell (p:=(zA w.heap.size 0)) am).trans am,(hbd1.cell (p:=(zA w.heap.size 1)) am).trans am,Nat.lt_of_lt_of_le am hbd1.size⟩))
   (first|((with_reducible refine(qdD x p m _ U0 U0 U0 U0).mono ?_);rintro e P ⟨rfl,hrowa,hbd1⟩)|((with_reducible refine(qdD y p m _ U0 U0 U0 U0).mono ?_);rintro e b6 ⟨rfl,hrowb,hbd2⟩))
  have hX:CutAB w r p m x y (zS r.heap.size m m) (zS P.heap.size m m) b6:=by have e:=ab.out;have R:Below r.heap.size r P:=⟨hbd1.os,hbd1.tape,hbd1.output,hbd1.size,hbd1.block⟩;have r1:Row P r.heap.size r.heap.size m (nz (digs p m x)):=hrowa;have ct:=hbd1.size;have l1:=r1.lt;refine⟨_,_,rfl,rfl,(r1.below hbd2 l1.2).base U0,hrowb.base (by have:r.heap.size<=P.heap.size:=R.size;omega),?_⟩;rw[<- e];exact R.trans (hbd2.mono R.size)
  have HX:=zH hX;clear hrowa hrowb hbd1 hbd2 hX;go_wp2_with fail;go_meet;exact HX.out
 case rest =>
  obtain⟨I,J,rfl,rfl,N,O,K⟩:=hcut;have Z:=zH N;have aa:=zH O;have ae:=zH K;have ad:w.heap.size+1<=wc.heap.size:=by have:=K.size;have:=ab.out;omega
  have y1:wc.cell? (zA w.heap.size 1)=some (Y m):=(K.cell (p:=(zA w.heap.size 1)) (by show w.heap.size < _;omega)).trans z1;clear N O K z0 z1;go_wp2_with (refine wpList_make_full wc rfl (.tmp 27) (.tmp 27) 23 rfl (w.heap.size+1) 3 i0 (Y 0) 1 Tryz.underlying23 HI.out bs.out bt.out .i64 .i64 m m m rfl rfl rfl rfl bd.out be.out ad ?_;intro w1 V E;have x1:w1.cell? (zA w.heap.size 1)=some (Y m):=(E.cell y1 U2));have b2:=Z.out.lt.2;have a6:=aa.out.lt.2
  have ak:Hid (MInv w r m I J wc.heap.size (digs p m x) (digs p m y) (List.replicate m 0) w1):=
   ⟨Z.out.grown E U2,aa.out.grown E U2,Row.of_make V,U0,U0,ae.out.grown E ad (fun _ h=>by cases h)⟩
  clear V E b2 a6 y1 Z aa ae;generalize wc.heap.size=g at *;clear ad;clear wc;go_loopw [10] (fun v10 wr=>RelM w r p m [0] I J g (digs p m x) (digs p m y) v10 wr) (fun v10 _=>(intOf v10+1).toNat);case atStart=>exact⟨m,Nat.le_refl _,U2,by rw[List.drop_of_length_le (by rw[qaK];exact Nat.le_refl _)];exact ak.out⟩
  case round =>
   obtain⟨k,hk,rfl,i⟩:=hrel;have C:=zH i;have s:=zH i.2.2.2.2.2;have d0:wr.cell? (zA w.heap.size 0)=some (Y p):=(s.out.cell (p:=(zA w.heap.size 0)) (by show w.heap.size < _;omega)).trans (cell_of_row _ _ 0 _ _ _ q.out);have d1:wr.cell? (zA w.heap.size 1)=some (Y m):=(s.out.cell (p:=(zA w.heap.size 1)) (by show w.heap.size < _;omega)).trans (cell_of_row _ _ 1 _ _ _ q.out);clear i ak x1;rcases k with _|k
   . have aq:Hid (Row wr (w.heap.size+1) g m (nz (mulL p m [0] (digs p m x) (digs p m y)))):=C.out.2.2.1;have HD:=zH (qaW (m:=m) (by omega:0<p) [0] (digs p m x) (digs p m y));have b0:=aq.out.lt.2;have HF:Hid (Below w.heap.size w wr):=bc.out.trans (s.out.mono (Nat.le_succ _));have HE:Hid (mulM p m [0] x y=val p (mulL p m [0] (digs p m x) (digs p m y))):=rfl;clear C s;generalize mulL p m [0] (digs p m x) (digs p m y)=L at *;go_wp2_with fail;(with_reducible refine(valueOf_n (zO g) L m m p wr (aq.out.ints b0) U0 HD.out U0 U0 U0).mono ?_);rintro e w' ⟨rfl,rfl⟩;go_wp2_with fail;go_ret;exact⟨qaG (by rw[HE.out]),HF.out⟩
   . (have a1 : ((k + 1 : Nat) : Int) - 1 = (k : Int) := by omega);rw [a1];clear a1;have a2:k<m:=U0;obtain ⟨N,O,a7,a3,a4,ac⟩:=C.out;have br:Hid (mulL p m [0] (digs p m x) ((digs p m y).drop k)=stepM p m [0] (digs p m x) ((digs p m y).getD k 0) (mulL p m [0] (digs p m x) ((digs p m y).drop (k+1)))):=mulL_drop p m [0] _ _ k (by rw [qaK];exact a2);have l:=zH (qaW (m:=m) (by omega:0<p) [0] (digs p m x) ((digs p m y).drop (k+1)));have ar:=zH (qcB (by omega:0<p) m x);have au:=zH (qcB (by omega:0<p) m y);have HK:Hid (MInv w r m I J g (digs p m x) (digs p m y) (mulL p m [0] (digs p m x) ((digs p m y).drop (k+1))) wr):=C.out;clear C;generalize mulL p m [0] (digs p m x) ((digs p m y).drop (k+1))=d at *;have bp:Hid (digs p m x=digs p m x):=rfl;generalize bv:digs p m x=o at *;generalize bz:digs p m y=f at *;clear bv bz bp;obtain ⟨B,u⟩:∃ t,d.getD (m-1) 0=t:=⟨_,rfl⟩;have Q:=zH u;(have t0:wr.cell? (zA g (m-1))=some (Y (B:Int)):=by rw [<- u,<- qaC];exact a7.cell (by rw [qaA,l.out.1];omega));clear N O a7 ac a3 a4 u;go_upto_region 7 with fail;go_cut [49] (fun v wx=>CopyInv w r m I J g o f d wx);case first => obtain ⟨cur,U,M,az,H⟩:=HK.out.2.2.1.cur;have ag:=zH U;have ci:=zH M;have bh:=zH az;have bq:=zH H;(have ay:m<=cur.length:=by rw [qaA,l.out.1] at M;exact M);(have W:Hid ((((nz d).take (m-1)).map (Value.int .i64)).length=m-1):=by show _=_;rw [List.length_map,List.length_take,qaA,l.out.1];omega);(have bf:Hid (∀ v∈((nz d).take (m-1)).map (Value.int .i64),v.oneCell'=true):=fun v hv=>by obtain ⟨z,_,rfl⟩:=List.mem_map.1 hv;rfl);have ch:Hid (∀ (j:Nat) (v:Value),(((nz d).take (m-1)).map (Value.int .i64))[j]?=some v->wr.cell? ((⟨g,0,none⟩:Addr).add j)=some v):=fun j v hv=>copy_src HK.out.2.2.1 hv;clear U M az H t0;have j1:(1:Int)<=(m:Int):=U0;have j2:∀ (a b:Option Addr),(if m=1 then a else b)=a:=fun a b=>if_pos (by have:=X.out;omega);have j3:(m:Int)-1<=(m:Int):=U0;have j5:((m:Int)-1).toNat=m-1:=U0;have j7:(0:Int)<=(m:Int)-1:=U0;generalize T:((nz d).take (m-1)).map (Value.int .i64)=cs at *;have bg:=zH T;clear T;(have ai:Hid (1+cs.length<=cur.length):=by show _<=_;rw [W.out];omega);have j6:IntKind.i64.wrap ((m:Int)-1)=(m:Int)-1:=IntWalk.i64_in _ U0;go_region_law (refine step_copy_splice rfl (.tmp 43) (.tmp 48) 23 23 rfl 3 Tryz.underlying23 sizeInt _ _ _ _ _ _ rfl rfl g 1 cur 3 ag.out cs (by rw [W.out];simp) (fun a5=>absurd a5 (by rw [W.out];have:=X.out;omega)) ai.out bf.out g wr (Below.refl _ _).drew (Nat.le_refl _) ?_;intro w4 a0 aw);clear j6;have HX:Hid (CopyInv w r m I J g o f d w4):=copy_inv HK.out l.out U0 ay bh.out bq.out bg.out a0.out aw;clear a0 aw;go_wp2_with fail;go_meet;exact HX.out
     case rest =>
      have HC:Hid (MInv w r m I J g o f (d.getD 0 0 :: d.take (m-1)) wc):=hcut;have f0:wc.frozen? (zA g 0)=false:=HC.out.2.2.1.frozen 0;(have c0:wc.cell? (zA g 0)=some (Y ((d.getD 0 0:Nat):Int)):=by have:=HC.out.2.2.1.cell (j:=0) (by simp[nz]);rw[this,qaC];rfl);clear hcut HK s d0 d1 t0;clear wr;go_wp2_with fail;(have af:Hid (MInv w r m I J g o f (innK p m [0] o (f.getD k 0) d 0) (wc.setCell (zA g 0) (Y 0))):=by have:=HC.out.set 0 0;exact this);clear HC f0 c0;generalize wc.setCell (zA g 0) (Y 0)=wd at *;clear wc;have bn:=zH (fun j hj=>innK_set p m [0] o (f.getD k 0) d j hj l.out.1);have bj:=zH (fun j hj=>innK_at p m [0] o (f.getD k 0) d j hj l.out.1);have bm:=zH (innK_end p m [0] o (f.getD k 0) d l.out.1 U0);(have cg:B<p:=by rw[<- Q.out];exact getD_lt U0 l.out _);have ck:f.getD k 0<p:=getD_lt U0 au.out _;(have ap:Hid (∀j,j<m->(stepM p m [0] o (f.getD k 0) d).getD j 0=((if j=0 then 0 else d.getD (j-1) 0)+(p-B)*([0]:List Nat).getD j 0+f.getD k 0*o.getD j 0) % p):=fun j hj=>by rw[<- Q.out];exact stepM_at p m [0] o (f.getD k 0) d j hj);go_loopw [54] (fun v54 wr=>RelI w r p m [0] I J g o f (f.getD k 0) d v54 wr) (fun v54 _=>m-(intOf v54).toNat);case atStart=>exact⟨0,U0,rfl,af.out⟩
      case round =>
       obtain⟨j,hj,rfl,i⟩:=hrel;have C:=zH i;have s:=zH i.2.2.2.2.2;clear i af;have d0:wr.cell? (zA w.heap.size 0)=some (Y p):=(s.out.cell (p:=(zA w.heap.size 0)) (by show w.heap.size < _;omega)).trans (cell_of_row _ _ 0 _ _ _ q.out);have d1:wr.cell? (zA w.heap.size 1)=some (Y m):=(s.out.cell (p:=(zA w.heap.size 1)) (by show w.heap.size < _;omega)).trans (cell_of_row _ _ 1 _ _ _ q.out);by_cases D:j<m
       . have HL := zH (innK_len (p := p) (md := [0]) (a := o) (bi := f.getD k 0) (Nat.le_of_lt D) U0 l.out.1);(have q0:wr.cell? (zA g j)=some (Y ((if j=0 then 0 else d.getD (j-1) 0:Nat):Int)):=by rw [<- bj.out j D,<- qaC];exact C.out.2.2.1.cell (by rw [qaA,HL.out];exact D));(have q1:wr.cell? (zA I j)=some (Y ((o.getD j 0:Nat):Int)):=by rw [<- qaC];exact C.out.1.cell (by rw [qaA,ar.out.1];exact D));(have q2:wr.cell? (zA J k)=some (Y ((f.getD k 0:Nat):Int)):=by rw [<- qaC];exact C.out.2.1.cell (by rw [qaA,au.out.1];exact a2));have f0:wr.frozen? (zA g j)=false:=C.out.2.2.1.frozen j;have cw:(if j=0 then 0 else d.getD (j-1) 0)<p:=by
          split
          . omega
          . exact getD_lt U0 l.out _
         have cj:o.getD j 0<p:=getD_lt U0 ar.out _;have ao:=zH (ap.out j D);have an:=zH (bn.out j D);have cl:(0:Nat)<p:=U0;(have bo:Hid (([0]:List Nat).getD j 0=0):=by show _=_;rcases j with _|j<;>simp[List.getD]);generalize cm:([0]:List Nat).getD j 0=lo at *;obtain rfl:lo=0:=bo.out;generalize b3:(if j=0 then 0 else d.getD (j-1) 0)=sj at *;generalize bu:o.getD j 0=aj at *;generalize bx:f.getD k 0=bk at *;clear b3 bu bx;have bw:=mul_le_256 (a:=bk) (b:=aj) U0 U0;have b1:((p-B:Nat):Int)=(p:Int)-(B:Int):=U0;obtain⟨b7,b8⟩:=bw;(have al:Hid (Int.tmod ((sj:Int)+(bk:Int)*(aj:Int)) (p:Int)=(((stepM p m [0] o bk d).getD j 0:Nat):Int)):=by show _=_;rw[ao.out,<- qaY];simp);clear b1 ao;generalize H:(stepM p m [0] o bk d).getD j 0=res at *;have cz:(0:Int)<=(j:Int):=U0;have c3:(j:Int)<((m:Nat):Int):=U0;have c4:(0:Int)<=(k:Int):=U0;have c5:(k:Int)<((m:Nat):Int):=U0;have a5:((p:Int)==0)=false:=so;have R:IntKind.i64.wrap ((p:Int)-(B:Int))=(p:Int)-(B:Int):=IntWalk.i64_in _ U0;have e2:IntKind.i64.wrap 0=0:=IntWalk.i64_in _ U0;have e3:IntKind.i64.wrap (sj:Int)=(sj:Int):=IntWalk.i64_in _ U0;have e4:IntKind.i64.wrap ((bk:Int)*(aj:Int))=(bk:Int)*(aj:Int):=IntWalk.i64_in _ U0;have e5:IntKind.i64.wrap ((sj:Int)+(bk:Int)*(aj:Int))=(sj:Int)+(bk:Int)*(aj:Int):=IntWalk.i64_in _ U0;have cd:¬p=0:=U0;have ce:¬(p:Int)=0:=U0;(have cf:res<p:=by rw[<- H];exact getD_lt U0 (stepM_dig (m:=m) U0 [0] o bk d) j);have e7:IntKind.i64.wrap (res:Int)=(res:Int):=IntWalk.i64_in _ U0;have E7:=zH e7;clear e7 H;have E1:=zH R;have E2:=zH e2;have E3:=zH e3;have E4:=zH e4;have E5:=zH e5;clear R e2 e3 e4 e5;have ax:=X.out;go_upto_region 15 with fail;have R:=E1.out;have e2:=E2.out;have e3:=E3.out;have e4:=E4.out;have e5:=E5.out;have e6:=al.out;have e7:=E7.out;go_still_tail 27,U1;change wpList _ _ _ _ _ wr.drew;have g0:wr.drew.cell? (zA g j)=some (Y (sj:Int)):=q0;have g1:wr.drew.frozen? (zA g j)=false:=f0;clear R e2 e3 e4 e5 e6 e7 q0 q1 q2 f0 d0 d1;go_wp2_with fail;(have ah:Hid (MInv w r m I J g o f (innK p m [0] o bk d (j+1)) (wr.drew.setCell (zA g j) (Y (res:Int)))):=by rw[<- an.out];exact MInv.set (MInv.drew C.out) j res);go_roundw;case rel=>exact⟨j+1,U0,gn,ah.out⟩
         case measure=>exact mE
       . (obtain rfl : j = m:=by omega);rw[bm.out,<- br.out] at C;clear d0 d1 s;go_wp2_with fail;go_roundw;case rel=>exact⟨k,U0,gn,C.out⟩
         case measure=>simp[intOf]
theorem multiply_c(p m x y:Nat)(A:Option Addr)(n c:Nat)(md:List Nat)(w:World)(i:Small p m)(l:ModAt w w.heap.size m A n md)(h:∀d∈md,d<p)(j:x<p^m)(k:y<p^m):
 zC 155 #[Ch p m A n c,Y x,Y y] w fun e w'=>e=.returned (Y ((mulM p m md x y:Nat):Int))/\Below w.heap.size w w':=by
 rcases l with⟨rfl,rfl⟩|⟨b,rfl,f,g⟩
 . exact multiply_1 p 1 x y A n c w i (Nat.le_refl _) j k
 . exact multiply_n p n x y A c md w i b g f h j k
theorem infoBool:(Tryz.prog.info? 4).map (fun i=>(i.zero,i.size,i.bytes))=some (some (.bool false),1,1):=U1
theorem fieldSize:(Tryz.prog.info? 29).map (·.size)=some 3:=U1
theorem range_of_row{w:World}{b:Nat}{cs:List Value}{t:TypeId}{fr:Nat × Nat}(h:w.heap[b]?=some (.cells cs.toArray t fr)):w.rangeAt b 0 cs:=by intro j v c;rw[Nat.zero_add,cell_of_row _ _ j _ _ _ h,List.getElem?_toArray];exact c
def BRow(w:World)(B g c:Nat)(bs:List Bool):Prop:=w.ownsRow B 4 1 (zS g bs.length c) bs.length (bs.map Value.bool)
section
variable {w w':World} {B g c:Nat} {bs:List Bool}
theorem BRow.cell(h:BRow w B g c bs){j:Nat}(b:j<bs.length):w.cell? (zA g j)=some (.bool (bs.getD j false)):=by rw[World.ownsRow.cellAt h j U0];simp[List.getD,b]
theorem BRow.frozen(h:BRow w B g c bs)(j:Nat):w.frozen? (zA g j)=false:=World.ownsRow.frozenAt h j
theorem BRow.lt(h:BRow w B g c bs):B<=g/\g<w.heap.size:=World.ownsRow.lt h g rfl
theorem BRow.set(h:BRow w B g c bs)(j:Nat)(x:Bool):BRow (w.setCell (zA g j) (.bool x)) B g c (bs.set j x):=by have:=(World.ownsRow.stored h j (.bool x)).1;unfold BRow;rw[List.length_set,List.map_set];exact this
theorem BRow.grown{row:Option Nat}(h:BRow w B g c bs)(d:w.grownBy w' row)(b:some g≠row):BRow w' B g c bs:=World.ownsRow.kept h d (.inr b)
theorem BRow.below(h:BRow w B g c bs){B':Nat}(l:Below B' w w')(m:g<B'):BRow w' B g c bs:=by
 refine⟨h.1,?_⟩;rcases h.2 with⟨i,_⟩|⟨d,b,cur,f,j,k,r⟩
 . cases i
 . (have:d=g:=by simp only[Value.slice.injEq,Option.some.injEq,Addr.mk.injEq,and_true,true_and] at f;exact f.1.symm);exact .inr ⟨d,b,cur,f,j,(l.block d U0).trans k,r⟩
theorem BRow.alloc(h:BRow w B g c bs)(o:Obj):BRow (w.alloc o) B g c bs:=World.ownsRow.alloc h o
theorem row_brow_ne{B' p q:Nat}{zs:List Int}(h:Row w B' p q zs)(r:BRow w B g c bs):p≠g:=by
 rintro rfl;rcases h.2 with⟨f,_⟩|⟨n,l,cur,k,_,m,_⟩
 . cases f
 . rcases r.2 with⟨f,_⟩|⟨o,i,j,d,_,b,_⟩
   . cases f
   . simp only[Value.slice.injEq,Option.some.injEq,Addr.mk.injEq,and_true,true_and] at k d;obtain⟨rfl,_⟩:=k;obtain⟨rfl,_⟩:=d;rw[m] at b;injection b with b;injection b with _ ht;exact absurd ht dc
theorem BRow.of_make{n:Nat}(h:w.ownsRow B 4 1 (zS g n c) n (madeCells (Value.bool false).cells (n*1)).toList):BRow w B g c (List.replicate n false):=by
 unfold BRow;have e:(madeCells (Value.bool false).cells (n*1)).toList=(List.replicate n false).map Value.bool:=by
  apply List.ext_getElem
  . simp[madeCells]
  . intro i b d;simp[madeCells,Value.cells,Nat.mod_one]
 rw[List.length_replicate,<- e];exact h
theorem BRow.of_made{n:Nat}(h:w.ownsRow B 4 1 (zS g n c) n (madeCells #[Value.bool false] n).toList):BRow w B g c (List.replicate n false):=BRow.of_make (by rw[Nat.mul_one];exact h)
end
theorem row_lit(W:World)(z:Int){B:Nat}(b:B<=W.heap.size):Row (W.alloc (.cells #[Y z] 3)) B W.heap.size 1 [z]:=
 ⟨U2,.inr ⟨W.heap.size,1,#[Y z],rfl,b,heap_alloc_new W _,Nat.le_refl _,U3,rfl,rfl⟩⟩
def OwnI(w:World)(B:Nat)(v:Value)(zs:List Int):Prop:=∃g c,v=zS g zs.length c/\Row w B g c zs
theorem own_of_row{w:World}{B g c k:Nat}{zs:List Int}(h:Row w B g c zs)(b:zs.length=k){o:Obj}:(w.alloc o).ownsRow B 3 1 (zS g k c) k (zs.map (Value.int .i64)):=by subst b;exact World.ownsRow.alloc h o
theorem own_of_append{w:World}{B k:Nat}{v:Value}{l:List Nat}{y:Nat}(h:w.ownsRow B 3 1 v (k+1) ((nz l).map (Value.int .i64)++[Y (y:Int)]))(d:(nz l).length=k):OwnI w B v (nz (l++[y])):=by
 obtain⟨g,b,rfl,_,_⟩:=h.form U0;have e:nz (l++[y])=nz l++[(y:Int)]:=by simp[nz]
 refine⟨g,b,by rw[e,List.length_append,d];rfl,?_⟩;unfold Row;rw[e,List.length_append,d,List.map_append];exact h
theorem OwnI.below{w w':World}{B:Nat}{v:Value}{zs:List Int}(h:OwnI w B v zs)(d:Below w.heap.size w w'):OwnI w' B v zs:=by obtain⟨g,c,rfl,b⟩:=h;exact⟨g,c,rfl,b.below d b.lt.2⟩
def Seen(q:Nat)(bs:List Bool)(acc:List Nat):Prop:=bs.length=q/\∀a,a<q->(bs.getD a false=true ↔ a∈acc)
theorem Seen.set{q:Nat}{bs:List Bool}{d:List Nat}(h:Seen q bs d){y:Nat}(f:y<q):Seen q (bs.set y true) (d++[y]):=by
 refine⟨by simp[h.1],fun a ha=>?_⟩;by_cases c:a=y
 . subst c;simp[List.getD,h.1,f]
 . have b:=h.2 a ha;simp only[List.getD] at b ⊢;rw[List.getElem?_set_ne U0,b];simp[c]
def RelP(w W0:World)(q x gs:Nat)(mul:Nat->Nat->Nat)(g:Nat)(v7 v9:Value)(wr:World):Prop:=
 ∃k bs,1<=k/\k+g=q/\Pln.Good mul x k/\pows mul x (q+1-k) (pw mul x k) (pl mul x k)=powers mul q x/\v9=Y ((pw mul x k:Nat):Int)/\
  OwnI wr (w.heap.size+1) v7 (nz (pl mul x k))/\BRow wr (w.heap.size+1) gs q bs/\Seen q bs (pl mul x k)/\Below (w.heap.size+1) W0 wr
theorem powers_c(p m x:Nat)(A:Option Addr)(n c:Nat)(md:List Nat)(w:World)(hs:Small p m)(hM:ModAt w w.heap.size m A n md)(cd:∀ d∈md,d<p)(hx:x<p ^ m):
 zC 154 #[Ch p m A n c,Y ((p^m:Nat):Int),Y x] w fun e w'=>(∃v,e=.returned v/\OwnI w' w.heap.size v (nz (powers (mulM p m md) (p^m) x)))/\Below w.heap.size w w':=by
 have bc:=zH hs;have HM:=zH hM;have ap:=zH cd;have E:=zH (qaV (p:=p) (m:=m) (by have:=hs.p1;omega) hs.m1 md);have b7:=E.out.q1;have b8:=hs.q;have ax:Hid (x<p^m):=hx;clear hs hM cd;obtain⟨i0,hi,a2,a3,a4⟩:=qaF infoInt;have HI:=zH hi;have be:=zH a2;have bf:=zH a3;have bg:=zH a4;obtain⟨i1,ki,a5,a6,a7⟩:=qaF infoBool;have KI:=zH ki;have bj:=zH a5;have bm:=zH a6;clear hi a2 a3 a4
 have HC:Hid (∀y W,y<p^m->w.heap.size<=W.heap.size->Below w.heap.size w W->zC 155 #[Ch p m A n c,Y ((y:Nat):Int),Y x] W fun e w'=>e=.returned (Y ((mulM p m md y x:Nat):Int))/\Below W.heap.size W w'):=
  fun y W hy hsz hb=>multiply_c p m y x A n c md W bc.out ((HM.out.keep hb).more hsz) ap.out hy ax.out
 generalize bp:mulM p m md=mul at *;clear bp;generalize br:p^m=q at *;clear br;have bh:=zH (show i1.bytes*q<=281474976710656 by rw[a7];omega);have bi:=zH (show q<=maxLen by unfold maxLen;omega);clear ki a5 a6 a7 HM ap;go_enter Tryz.func154,Tryz.ntmps154;go_wp2_with (refine wpList_make_full _ rfl (.tmp 11) (.tmp 11) 133 rfl (w.heap.size+1) 4 i1 (.bool false) 1 Tryz.underlying133 KI.out bj.out bm.out .i64 .i64 q q q rfl rfl rfl rfl bh.out bi.out ?c1 ?_);case c1=>simp
 intro w1 ad ai;have D:=BRow.of_made ad;have C:Hid ((w.alloc (Ce p m A n c)).heap.size=w.heap.size+1):=U7;have an:Hid ((w.alloc (Ce p m A n c)).heap[w.heap.size]?=some (.cells (Ci p m A n c).toArray 29 (0,0))):=heap_alloc_new _ _;have aj:Hid (Below w.heap.size w (w.alloc (Ce p m A n c))):=(Below.refl _ _).alloc (Nat.le_refl _) _;generalize w.alloc (Ce p m A n c)=W0 at *;have az:Row (W0.alloc (.cells #[Y 1] 3)) (w.heap.size+1) (w.heap.size+1) 1 [1]:=by have:=row_lit W0 1 (B:=w.heap.size+1) (Nat.le_of_eq C.out.symm);rw[C.out] at this;exact this
 have ak:Hid (Below (w.heap.size+1) W0 w1):=((Below.refl _ _).alloc (Nat.le_of_eq C.out.symm) _).grown ai (by simp [C.out]) (fun _ h=>by cases h);have aw:=zH (az.grown ai U2);have l:=zH D;have s0:=D.frozen 1;have s1:=D.cell (j:=1) (by rw [List.length_replicate];omega);clear ad ai az D;have b9:(1:Int)<(q:Int):=U0;go_wp2_with fail;have ab:=zH (aw.out.far (p:=(zA (w.heap.size+1+1) 1)) (by show w.heap.size+1≠w.heap.size+1+1;omega) (.bool true));have o:=zH (l.out.set 1 true);have al:=zH (ak.out.setCell (p:=(zA (w.heap.size+1+1) 1)) (by show w.heap.size+1<=w.heap.size+1+1;omega) (.bool true));clear s0 s1 aw l ak;generalize w1.setCell (zA (w.heap.size+1+1) 1) (.bool true)=w2 at *;clear w1;have ba:Hid (w.heap.size+1<=w.heap.size+1+1):=Nat.le_succ _;generalize w.heap.size+1+1=gs at *;have ar:Hid (pw mul x 1=x):=E.out.one x ax.out;go_loopg [7,9] (q-1) (fun g v7 v9 wr=>RelP w W0 q x gs mul g v7 v9 wr);case atStart =>
  refine⟨1,(List.replicate q false).set 1 true,Nat.le_refl _,U0,good_one x,?_,by rw[ar.out],⟨w.heap.size+1,1,rfl,ab.out⟩,?_,⟨U2,?_⟩,al.out⟩
  . rw[ar.out];rfl
  . exact o.out
  . intro a ha;have e:pl mul x 1=[1]:=rfl;rw[e];by_cases h1:a=1
    . subst h1;simp[List.getD,ha]
    . simp only[List.getD];rw[List.getElem?_set_ne U0];simp[ha,h1]
 case round =>
  obtain⟨k,bs,b1,b2,S,V,rfl,⟨g,c',rfl,ae⟩,D,X,ac⟩:=hrel;have f:=zH ae;have l:=zH D;have i:=zH X;have L:=zH ac;have O:=zH S;have Q:=zH V;have J:pw mul x k<q:=pw_lt E.out x k;clear ae D X ac S V ab o al;have r:Hid (pw mul x k=0\/pw mul x k∈pl mul x k->powers mul q x=pl mul x k):=fun h=>by rw[<- Q.out,show q+1-k=(q-k)+1 by omega];simp only[pows,if_pos h]
  have N:Hid (Below w.heap.size w wr):=aj.out.trans (L.out.mono (Nat.le_succ _));have s:Hid ((nz (pl mul x k)).length=k):=by show _=_;rw[qaA,pl_len]
  have ag:=zH (f.out.base (B':=w.heap.size) (by have:=f.out.lt;omega));have R:Hid (pw mul x k<q->(bs.getD (pw mul x k) false=true ↔ pw mul x k∈pl mul x k)):=i.out.2 _;have K:Hid (wr.cell? (zA gs (pw mul x k))=some (.bool (bs.getD (pw mul x k) false))):=l.out.cell (by rw[i.out.1];exact J);have Z:Hid (wr.frozen? (zA gs (pw mul x k))=false):=l.out.frozen _;have I:Hid (pw mul x (k+1)=mul (pw mul x k) x):=rfl;have P:Hid (pl mul x (k+1)=pl mul x k++[pw mul x k]):=pl_succ x k;have H:Hid (pw mul x k≠0->pw mul x k∉pl mul x k->Pln.Good mul x (k+1)/\pows mul x (q+1-(k+1)) (pw mul x (k+1)) (pl mul x (k+1))=powers mul q x):=fun h1 h2=>by
   refine⟨good_succ O.out h1 h2,?_⟩;rw[<- Q.out,show q+1-k=(q+1-(k+1))+1 by omega];have hn:¬(pw mul x k=0\/pw mul x k∈pl mul x k):=by
    rintro(h|h)
    . exact h1 h
    . exact h2 h
   simp only[pows,if_neg hn,P.out,I.out]
  rw[s.out];clear Q O;by_cases hz:pw mul x k=0
  . have HE:=zH (r.out (.inl hz));clear r R K Z I P H;rw[hz];clear hz J;go_wp2_with fail;go_ret;exact⟨⟨zS g k c',rfl,g,c',by rw[HE.out,s.out],by rw[HE.out];exact ag.out⟩,N.out⟩
  . by_cases hm : pw mul x k ∈ pl mul x k
    . have HE:=zH (r.out (.inr hm));have hb:=K.out;rw[(R.out J).2 hm] at hb;clear r R K Z I P H hm;generalize pw mul x k=y at *;(have bx:((y:Int) != 0)=true:=by simpa using hz);have a0:¬(y:Int)=0:=U0;have bv:(0:Int)<=(y:Int):=U0;have bw:(y:Int)<(q:Int):=U0;go_wp2_with fail;go_ret;exact⟨⟨zS g k c',rfl,g,c',by rw[HE.out,s.out],by rw[HE.out];exact ag.out⟩,N.out⟩
    . have hb := K.out;have ay:bs.getD (pw mul x k) false=false:=by
       cases h:bs.getD (pw mul x k) false
       . rfl
       . exact absurd ((R.out J).1 h) hm
      rw[ay] at hb;have hf:=Z.out;obtain⟨ah,V⟩:=H.out hz hm;have a9:=zH ah;have Q:=zH V;have b6:=good_len E.out ah;have aa:=zH (i.out.set J);have a8:Hid (∀W,w.heap.size<=W.heap.size->Below w.heap.size w W->zC 155 #[Ch p m A n c,Y ((pw mul x k:Nat):Int),Y x] W fun e w'=>e=.returned (Y ((mul (pw mul x k) x:Nat):Int))/\Below W.heap.size W w'):=fun W h1 h2=>HC.out _ W J h1 h2;clear r R K Z H hm ay ah V i N ag;have bd:Hid (pw mul x k=pw mul x k):=rfl;generalize a1:pw mul x k=y at *;have bz:=zH a1;clear bd a1;(have bx:((y:Int) != 0)=true:=by simpa using hz);have a0:¬(y:Int)=0:=U0;have bv:(0:Int)<=(y:Int):=U0;have bw:(y:Int)<(q:Int):=U0;have bq:=row_brow_ne f.out l.out;have au:=zH (f.out.far (p:=(zA gs y)) bq (.bool true));have o:=zH (l.out.set y true);have z:=zH (L.out.setCell (p:=(zA gs y)) ba.out (.bool true));have bo:=f.out.lt;have b0:g<wr.heap.size:=bo.2;go_upto_region 8 with fail;clear hb hf f l L;generalize wr.setCell (zA gs y) (.bool true)=ws at *;(have bu:w.heap.size+1<=ws.heap.size:=by have:=z.out.size;have:=C.out;omega);have b3:k<=256:=U0;go_wp2_with (at_builtin;refine wpList_append_own_at _ rfl (.tmp 32) (.tmp 34) 23 rfl (w.heap.size+1) 3 i0 _ 1 8 Tryz.underlying23 HI.out be.out bf.out bg.out rfl dc (zS g k c') k ((nz (pl mul x k)).map (Value.int .i64)) rfl (own_of_row au.out s.out) (zA ws.heap.size 0) 1 1 [Y (y:Int)] rfl rfl ?c1 ?c2 ?c3 ?c4 ?c5 ?_);case c1=>exact World.news_of_block (cs:=#[Y (y:Int)]) (t:=3) (fr:=(0,0)) (heap_alloc_new ws _)
      case c2=>intro u hu;simp at hu;subst hu;rfl
      case c3=>unfold maxLen;omega
      case c4=>omega
      case c5=>simp;omega
      intro v' w3 U T _ bn;(have aq:Hid (OwnI w3 (w.heap.size+1) v' (nz (pl mul x (k+1)))):=by rw[P.out];exact own_of_append U s.out);have M:Hid (BRow w3 (w.heap.size+1) gs q (bs.set y true)):=(o.out.alloc _).grown T V0;have b:Hid (Below (w.heap.size+1) W0 w3):=(z.out.alloc bu _).grown T so (fun j hj=>by simp[Value.ownBlock] at hj;omega);have av:Hid (w3.rangeAt w.heap.size 0 (Ci p m A n c)):=range_of_row ((b.out.block _ (Nat.lt_succ_self _)).trans an.out);(have bt:w.heap.size<=w3.heap.size:=by have:=b.out.size;have:=C.out;omega);clear U T bn au o z;go_wp2_with (refine wpList_load_mid rfl 29 (.tmp 3) rfl w.heap.size 0 rfl (Ci p m A n c) _ av.out Tryz.underlying29 rfl fieldSize ?_);(with_reducible refine(a8.out w3 bt (aj.out.trans (b.out.mono (Nat.le_succ _)))).mono ?_);rintro e w4 ⟨rfl,hb4⟩;have bb:=zH (aq.out.below hb4);have ao:=zH (M.out.below hb4 M.out.lt.2);have af:=zH (b.out.trans (hb4.mono (by have:=b.out.size;have:=C.out;omega)));clear hb4 aq M b av;go_wp2_with fail;go_roundg (q-(k+1));case measure=>omega
      case rel=>exact⟨k+1,_,U0,U0,a9.out,Q.out,by rw[I.out],bb.out,ao.out,by rw[P.out];exact aa.out,af.out⟩
def GenV(w:World)(B:Nat)(v:Value)(l:List Nat):Prop:=(l=[]/\v=zL none 0 0)\/(l≠[]/\OwnI w B v (nz l))
def RelG(w W0:World)(q:Nat)(mul:Nat->Nat->Nat)(g:Nat)(v5:Value)(wr:World):Prop:=
 ∃x:Nat,1<=x/\x+g=q/\v5=Y x/\genGo mul q (q-x) x=genM mul q/\Below (w.heap.size+1) W0 wr
def CutG(w W0:World)(l:List Nat)(b:Bool)(v6 v31:Value)(wr:World):Prop:=v31=.bool b/\OwnI wr (w.heap.size+1) v6 (nz l)/\Below (w.heap.size+1) W0 wr
theorem generator_c(p m:Nat)(A:Option Addr)(n c:Nat)(md:List Nat)(w:World)(hs:Small p m)(hM:ModAt w w.heap.size m A n md)(az:∀ d∈md,d<p):
 zC 95 #[Ch p m A n c,Y ((p^m:Nat):Int)] w fun e w'=>(∃v,e=.returned v/\GenV w' w.heap.size v (genM (mulM p m md) (p^m)))/\Below w.heap.size w w':=by
 have z:=zH (qaV (p:=p) (m:=m) (by have:=hs.p1;omega) hs.m1 md);have au:=z.out.q1;have av:=hs.q
 have ab:Hid (∀x y W,x<p^m->y<p^m->w.heap.size<=W.heap.size->Below w.heap.size w W->zC 155 #[Ch p m A n c,zN x,Y ((y:Nat):Int)] W fun e w'=>e=.returned (Y ((mulM p m md x y:Nat):Int))/\Below W.heap.size W w'):=
  fun x y W hx hy hsz R=>multiply_c p m x y A n c md W hs ((hM.keep R).more hsz) az hx hy
 have ac:Hid (∀x W,x<p^m->w.heap.size<=W.heap.size->Below w.heap.size w W->zC 154 #[Ch p m A n c,Y ((p^m:Nat):Int),zN x] W fun e w'=>(∃v,e=.returned v/\OwnI w' W.heap.size v (nz (powers (mulM p m md) (p^m) x)))/\Below W.heap.size W w'):=
  fun x W hx hsz R=>powers_c p m x A n c md W hs ((hM.keep R).more hsz) az hx
 clear hs hM az;generalize ai:mulM p m md=mul at *;clear ai;generalize aj:p^m=q at *;clear aj;go_enter Tryz.func95,Tryz.ntmps95;go_wp2_with fail;have C:Hid ((w.alloc (Ce p m A n c)).heap.size=w.heap.size+1):=U7;have o:Hid ((w.alloc (Ce p m A n c)).heap[w.heap.size]?=some (.cells (Ci p m A n c).toArray 29 (0,0))):=heap_alloc_new _ _;have L:Hid (Below w.heap.size w (w.alloc (Ce p m A n c))):=(Below.refl _ _).alloc (Nat.le_refl _) _;generalize w.alloc (Ce p m A n c)=X at *;go_loopg [5] (q-1) (fun g v5 wr=>RelG w X q mul g v5 wr);case atStart=>exact⟨1,Nat.le_refl _,U0,rfl,rfl,Below.refl _ _⟩
 case round =>
  obtain⟨x,ax,ay,rfl,U,r⟩:=hrel;have s:=zH U;have k:=zH r;have t:Hid (Below w.heap.size w wr):=L.out.trans (r.mono (Nat.le_succ _));have al:w.heap.size<=wr.heap.size:=by have:=r.size;have:=C.out;omega
  clear U r;by_cases O:x<q
  . have T : Hid (wr.rangeAt w.heap.size 0 (Ci p m A n c)) := range_of_row ((k.out.block _ (Nat.lt_succ_self _)).trans o.out);go_wp2_with (refine wpList_load_mid rfl 29 (.tmp 2) rfl w.heap.size 0 rfl (Ci p m A n c) _ T.out Tryz.underlying29 rfl fieldSize ?_);(with_reducible refine (ac.out x wr O al t.out).mono ?_);rintro e I ⟨⟨v,rfl,hown⟩,hb1⟩;obtain ⟨g,Q,rfl,H⟩:=hown;have af:=H.lt;have b:=zH (k.out.trans (hb1.mono (by have:=k.out.size;have:=C.out;omega)));have B:=zH (H.base (B':=w.heap.size+1) (by have:=k.out.size;have:=C.out;omega));obtain ⟨kk,M,ar,P⟩:=powers_spec z.out O;have aq:=zH P;have u:Hid (∀ j,(powers mul q x).getD j 0<q):=fun j=>by
     rw[P];unfold pl;simp only[List.getD,List.getElem?_map];cases (List.range kk)[j]? with
     |none=>simp;omega
     |some i=>exact pw_lt z.out x i
    (have f:Hid (genGo mul q (q-x) x=if (powers mul q x).length=q-1/\mul ((powers mul q x).getD (q-2) 0) x=1 then powers mul q x else genGo mul q (q-(x+1)) (x+1)):=by show _=_;rw [show q-x=(q-(x+1))+1 by omega];rfl);clear H hb1 P M T k t;generalize ah:powers mul q x=l at *;clear ah;rw [qaA];go_upto_region 5 with fail;(have ak:w.heap.size<=I.heap.size:=by have:=b.out.size;have:=C.out;omega);have z0:I.cell? (zA w.heap.size 0)=some (Y p):=(b.out.cell (p:=(zA w.heap.size 0)) (by show w.heap.size < _;omega)).trans (cell_of_row _ _ 0 _ _ _ o.out);have z1:I.cell? (zA w.heap.size 1)=some (Y m):=(b.out.cell (p:=(zA w.heap.size 1)) (by show w.heap.size < _;omega)).trans (cell_of_row _ _ 1 _ _ _ o.out);have z2:I.cell? (zA w.heap.size 2)=some (zL A n c):=(b.out.cell (p:=(zA w.heap.size 2)) (by show w.heap.size < _;omega)).trans (cell_of_row _ _ 2 _ _ _ o.out);(have K:w.heap.size<I.heap.size:=by have:=b.out.size;have:=C.out;omega);go_cut [31] (fun v31 wx=>CutG w X l (decide (l.length=q-1/\mul (l.getD (q-2) 0) x=1)) (zS g l.length Q) v31 wx);case first =>
     by_cases Z:l.length=q-1
     . (have ag : ((l.length : Int) == (q : Int) - 1) = true := by simp;omega);have N:(l.length:Int)=(q:Int)-1:=U0;have ap:=zH N;(have S:Hid (decide (l.length=q-1/\mul (l.getD (q-2) 0) x=1)=decide (mul (l.getD (q-2) 0) x=1)):=by show _=_;rw [decide_eq_decide];exact ⟨fun h=>h.2,fun h=>⟨Z,h⟩⟩);(have aw:I.cell? (zA g (q-2))=some (Y ((l.getD (q-2) 0:Nat):Int)):=by rw [<- qaC];exact B.out.cell (by rw [qaA];omega));have ao:=u.out (q-2);have V:=af.2;have t0:(0:Int)<=(q:Int)-2:=U0;have t1:(q:Int)-2<(l.length:Int):=U0;have t2:((q:Int)-2).toNat=q-2:=U0;have t3:(2:Int)<=(q:Int):=U0;have HL:=zH Z;clear Z N;generalize an:l.getD (q-2) 0=y at *;clear an;have aa:=zH (ab.out y x I.drew ao O (show w.heap.size<=I.drew.heap.size from ak) (L.out.trans (b.out.mono (Nat.le_succ _))).drew);have e1:IntKind.i64.wrap ((q:Int)-1)=(q:Int)-1:=IntWalk.i64_in _ U0;have e2:IntKind.i64.wrap ((q:Int)-2)=(q:Int)-2:=IntWalk.i64_in _ U0
       go_region_held3 (fun w'=>w'.cell? (zA w.heap.size 0)=some (Y p)/\w'.cell? (zA w.heap.size 1)=some (Y m)/\w'.cell? (zA w.heap.size 2)=some (zL A n c)/\w'.cell? (zA g (q-2))=some (Y (y:Int)))
        (first|go_keep|(go_split_ands;exact⟨(hbd.cell (p:=(zA w.heap.size 0)) K).trans am,(hbd.cell (p:=(zA w.heap.size 1)) K).trans am,(hbd.cell (p:=(zA w.heap.size 2)) K).trans am,(hbd.cell (p:=(zA g (q-2))) V).trans am⟩))
        (first|((with_reducible refine aa.out.mono ?_);rintro e w2 ⟨rfl,hbd⟩))
       have D:Below I.heap.size I w2:=⟨hbd.os,hbd.tape,hbd.output,hbd.size,hbd.block⟩;have HY:Hid (CutG w X l (decide (l.length=q-1/\mul y x=1)) (zS g l.length Q) (.bool (((mul y x:Nat):Int)==1)) w2):=by
        refine⟨?_,⟨g,Q,by rw[qaA],B.out.below D V⟩,b.out.trans (D.mono K)⟩;rw[S.out];congr 1;by_cases h:mul y x=1
        . simp[h]
        . simp[h];omega
       clear e1 e2 z0 z1 z2 hbd D;go_wp2_with fail;go_meet;exact HY.out
     . have HX : Hid (decide (l.length = q - 1 /\ mul (l.getD (q - 2) 0) x = 1) = false) := decide_eq_false (fun h => Z h.1);have ag:((l.length:Int)==(q:Int)-1)=false:=so;have N:¬ (l.length:Int)=(q:Int)-1:=U0;have e1:IntKind.i64.wrap ((q:Int)-1)=(q:Int)-1:=IntWalk.i64_in _ U0;go_quiet (fail)
       have HY:Hid (CutG w X l (decide (l.length=q-1/\mul (l.getD (q-2) 0) x=1)) (zS g l.length Q) (.bool false) (I.drewN nq)):=
        ⟨by rw[HX.out],⟨g,Q,by rw[qaA],B.out⟩,qaB b.out nq⟩
       clear e1 z0 z1 z2;go_wp2_with fail;go_meet;exact HY.out
    case rest =>
     obtain⟨rfl,⟨g',c2,he,hr⟩,R⟩:=hcut;have HR:=zH hr;have HB:=zH R;have HE:=zH he;clear hr R he z0 z1 z2;by_cases hd:l.length=q-1/\mul (l.getD (q-2) 0) x=1
     . (have J:Hid (genM mul q=l):=by show _=_;rw[<- s.out,f.out,if_pos hd]);have E:decide (l.length=q-1/\mul (l.getD (q-2) 0) x=1)=true:=decide_eq_true hd;(have ae:Hid (l≠[]):=fun h=>by subst h;have:=hd.1;simp at this;omega);rw[E];clear hd E f s u;go_wp2_with fail;go_ret;refine⟨⟨zS g l.length Q,rfl,.inr ⟨by rw[J.out];exact ae.out,?_⟩⟩,L.out.trans (HB.out.mono (Nat.le_succ _))⟩;rw[J.out];exact⟨g',c2,HE.out,HR.out.base (by have:=HR.out.lt;omega)⟩
     . (have J : Hid (genGo mul q (q - (x + 1)) (x + 1) = genM mul q):=by show _ = _;rw[<- s.out,f.out,if_neg hd]);have E:decide (l.length=q-1/\mul (l.getD (q-2) 0) x=1)=false:=decide_eq_false hd;rw[E];clear hd E f s u;go_wp2_with fail;go_roundg (q-(x+1));case measure=>omega
       case rel=>exact⟨x+1,U0,U0,gn,J.out,HB.out⟩
  . (obtain rfl:x=q:=by omega);(have ad:Hid (genM mul x=[]):=by show _=_;rw[<- s.out,Nat.sub_self];rfl);clear s;go_wp2_with fail;go_ret;exact⟨⟨_,rfl,.inl ⟨ad.out,rfl⟩⟩,t.out⟩
def mdOf(m:Int)(mod:List Int):List Nat:=if m=1 then[0] else mod.map Int.toNat
def inB(p c:Int):Bool:=decide (0<=c) && decide (c<p)
def shapeM(p m:Int)(mod:List Int):Bool:=
 !(orderM p m==0) && primeP p.toNat && (if m=1 then mod.length==0 else((mod.length:Int)==m) && mod.all (inB p))
structure ShapeIs (p m:Int) (mod:List Int):Prop where
 p0:((p.toNat:Nat):Int)=p
 m0:((m.toNat:Nat):Int)=m
 small:Small p.toNat m.toNat
 prime:primeP p.toNat=true
 ord:orderM p m=((p.toNat^m.toNat:Nat):Int)
 one:m=1->mod=[]
 len:m≠1->mod.length=m.toNat
 nat:m≠1->nz (mdOf m mod)=mod
 lt:∀d∈mdOf m mod,d<p.toNat
theorem orderM_ne{p m:Int}(h:orderM p m≠0):((p.toNat:Nat):Int)=p/\((m.toNat:Nat):Int)=m/\Small p.toNat m.toNat/\orderM p m=((p.toNat ^ m.toNat:Nat):Int):=by
 unfold orderM at h ⊢;by_cases b:p<2\/256<p\/m<1\/8<m
 . rw[if_pos b] at h;exact absurd rfl h
 . rw[if_neg b] at h ⊢;by_cases c:256<p.toNat^m.toNat
   . rw[if_pos c] at h;exact absurd rfl h
   . rw[if_neg c];exact⟨U0,U0,⟨U0,U0,U0,U0,U0⟩,rfl⟩
theorem shape_is{p m:Int}{mod:List Int}(h:shapeM p m mod=true):ShapeIs p m mod:=by
 unfold shapeM at h;simp only[Bool.and_eq_true,Bool.not_eq_true',beq_eq_false_iff_ne,ne_eq] at h;obtain⟨⟨n,l⟩,j⟩:=h;obtain⟨a,b,c,d⟩:=orderM_ne n;by_cases g:m=1
 . rw[if_pos g] at j;refine⟨a,b,c,l,d,fun _=>by simpa using j,fun h=>absurd g h,fun h=>absurd g h,?_⟩;intro x i;unfold mdOf at i;rw[if_pos g] at i;simp at i;have:=c.p1;omega
 . rw[if_neg g] at j;simp only[Bool.and_eq_true,beq_iff_eq] at j;(have f:∀z∈mod,0<=z/\z<p:=fun z k=>by have:=List.all_eq_true.1 j.2 z k;simpa[inB] using this);refine⟨a,b,c,l,d,fun h=>absurd h g,fun _=>U0,fun _=>?_,?_⟩
   . unfold mdOf nz;rw[if_neg g,List.map_map];(conv=>rhs;rw[<- List.map_id mod]);apply List.map_congr_left;intro z k;have:=f z k;simp;omega
   . intro x i;unfold mdOf at i;rw[if_neg g] at i;obtain⟨z,k,rfl⟩:=List.mem_map.1 i;have:=f z k;omega
theorem ShapeIs.mod{w:World}{p m:Int}{mod:List Int}{B:Nat}{A:Option Addr}(h:ShapeIs p m mod)(f:IntsAt w B A mod):ModAt w B m.toNat A mod.length (mdOf m mod):=by
 by_cases b:m=1
 . refine .inl ⟨U0,?_⟩;unfold mdOf;rw[if_pos b]
 . have c:=h.small.m1;have d:=h.m0;refine .inr ⟨U0,h.len b,?_,?_⟩
   . have:=h.nat b;rw[<- h.len b,<- this,qaA,this]
   . rw[h.nat b];exact f
theorem shape_c(p m:Int)(mod:List Int)(A:Option Addr)(c:Nat)(w:World)(hA:IntsAt w w.heap.size A mod)(hl:mod.length<=9223372036854775807):
 zC 94 #[Ch p m A mod.length c] w fun e w'=>e=.returned (.bool (shapeM p m mod))/\Below w.heap.size w w':=by
 have U:=zH hA;have d:Hid (Below w.heap.size w (w.alloc (Ce p m A mod.length c))):=(Below.refl _ _).alloc (Nat.le_refl _) _;clear hA;by_cases u:orderM p m=0
 . (have j:Hid (shapeM p m mod=false):=by show _=_;unfold shapeM;rw[u];rfl);(have C:(orderM p m==0)=true:=by rw[u];rfl);clear u;go_enter Tryz.func94,Tryz.ntmps94;go_wp2_with (go_at_call 96;refine(qcX _ _ _).mono ?_;rintro e w' ⟨rfl,rfl⟩);go_ret;exact⟨qaN j.out.symm,d.out⟩
 . obtain ⟨E,B,R,D⟩ := orderM_ne u;(have C:(orderM p m==0)=false:=by simpa using u);obtain ⟨p,rfl⟩:∃ p':Nat,p=p':=⟨p.toNat,E.symm⟩;obtain ⟨m,rfl⟩:∃ m':Nat,m=m':=⟨m.toNat,B.symm⟩;obtain ⟨Q,t,L,M,X⟩:=R;simp only [Int.toNat_natCast] at Q t L M;(have f:Hid (shapeM p m mod=(primeP p && (if (m:Int)=1 then mod.length==0 else ((mod.length:Int)==(m:Int)) && mod.all (inB p)))):=by show _=_;unfold shapeM;rw [C];simp);clear E B u X D;cases hpr:primeP p
   . (have j:Hid (shapeM p m mod=false):=by show _=_;rw[f.out,hpr];rfl);(have x:Hid (∀W:World,zC 153 #[Y (p:Int)] W fun e w'=>e=.returned (.bool false)/\W=w'):=fun W=>by have:=isPrime_c p t W;rw[hpr] at this;exact this);clear hpr f;go_enter Tryz.func94,Tryz.ntmps94;go_wp2_with (first|(go_at_call 96;refine(qcX _ _ _).mono ?_;rintro e w' ⟨rfl,rfl⟩)|(go_at_call 153;refine(x.out _).mono ?_;rintro e w' ⟨rfl,rfl⟩));go_ret;exact⟨qaN j.out.symm,d.out⟩
   . (have x : Hid (∀ W : World,zC 153 #[Y (p : Int)] W fun e w' => e = .returned (.bool true) /\ W = w') := fun W => by have:=isPrime_c p t W;rw [hpr] at this;exact this);rw [hpr] at f;clear hpr;have J:Hid ((w.alloc (Ce p m A mod.length c)).heap[w.heap.size]?=some (Ce p m A mod.length c)):=heap_alloc_new _ _;by_cases P:m=1
     . (have j : Hid (shapeM p m mod = (mod.length == 0)) := by show _ = _;rw [f.out,if_pos U0];rfl);have N:((m:Int)==1)=true:=so;have O:(m:Int)=1:=U0;clear f P O;go_enter Tryz.func94,Tryz.ntmps94;go_wp2_with (first | (go_at_call 96;refine (qcX _ _ _).mono ?_;rintro e w' ⟨rfl,rfl⟩) | (go_at_call 153;refine (x.out _).mono ?_;rintro e w' ⟨rfl,rfl⟩));go_ret;refine ⟨qaN ?_,d.out⟩;rw [j.out];have Z:((mod.length:Int)==0)=(mod.length==0):=by
        by_cases K:mod.length=0
        . rw[K];rfl
        . (have H:¬(mod.length:Int)=0:=by omega);rw[beq_eq_false_iff_ne.2 H,beq_eq_false_iff_ne.2 K]
       exact Z
     . (have N : ((m : Int) == 1) = false := by simp;omega);(have g:Hid (shapeM p m mod=(((mod.length:Int)==(m:Int)) && mod.all (inB p))):=by show _=_;rw [f.out,if_neg U0];rfl);clear f;by_cases i:mod.length=m
       . (have l : ((mod.length : Int) == (m : Int)) = true := by simp;omega);have y:((mod.length:Int) != (m:Int))=false:=so;(have j:Hid (shapeM p m mod=mod.all (inB p)):=by show _=_;rw [g.out,l];rfl);have S:=zH i;have V:mod.length<=8:=U0;clear g l i;go_enter Tryz.func94,Tryz.ntmps94;go_wp2_with (first | (go_at_call 96;refine (qcX _ _ _).mono ?_;rintro e w' ⟨rfl,rfl⟩) | (go_at_call 153;refine (x.out _).mono ?_;rintro e w' ⟨rfl,rfl⟩));generalize w.alloc (Ce p m A mod.length c)=W at *;go_loop [33] (fun v33=>∃ k:Nat,k<=mod.length/\v33=Y k/\(mod.take k).all (inB p)=true) (fun v33=>mod.length-(intOf v33).toNat);case atStart=>exact ⟨0,U0,rfl,U2⟩
         case round =>
          obtain⟨k,hk,rfl,s⟩:=hrel;have q:=zH s;clear s;have z0:W.cell? (zA w.heap.size 0)=some (Y p):=cell_of_row _ _ 0 _ _ _ J.out;by_cases n:k<mod.length
          . obtain ⟨b,o,rfl,hb,hc⟩ := (U.out.keep d.out).at_ n;(have I:Hid ((mod.take (k+1)).all (inB p)=((mod.take k).all (inB p) && inB p (mod.getD k 0))):=by show _=_;rw [List.take_succ_eq_append_getElem n,List.all_append];simp [List.getD,n]);(have r:Hid (inB p (mod.getD k 0)=false->mod.all (inB p)=false):=fun h=>by rw [List.all_eq_false];exact ⟨mod.getD k 0,by rw [List.getD_eq_getElem?_getD,List.getElem?_eq_getElem n];exact List.getElem_mem n,by rw [h];simp⟩);generalize mod.getD k 0=z at *;by_cases K:z<0
            . have v:=zH (r.out (by unfold inB;rw[decide_eq_false U0];rfl));go_wp2_with fail;go_ret;exact⟨qaN (by rw[j.out,v.out]),d.out⟩
            . by_cases H : z < p
              . (have v : Hid (inB p z = true):=by show _ = _;unfold inB;rw[decide_eq_true U0,decide_eq_true H];rfl);go_wp2_with fail;go_round;case rel=>exact⟨k+1,U0,gn,by rw[I.out,q.out,v.out];rfl⟩
                case measure=>exact mE
              . have v:=zH (r.out (by unfold inB;rw[decide_eq_false H,Bool.and_false]));go_wp2_with fail;go_ret;exact⟨qaN (by rw[j.out,v.out]),d.out⟩
          . go_wp2_with fail;go_ret;refine⟨qaN ?_,d.out⟩;have:=q.out;rw[List.take_of_length_le U0] at this;rw[j.out,this]
       . (have l:((mod.length:Int)==(m:Int))=false:=by simp;omega);have y:((mod.length:Int) != (m:Int))=true:=so;have T:¬mod.length=m:=i;(have j:Hid (shapeM p m mod=false):=by show _=_;rw[g.out,l];rfl);clear g l i;go_enter Tryz.func94,Tryz.ntmps94;go_wp2_with (first|(go_at_call 96;refine(qcX _ _ _).mono ?_;rintro e w' ⟨rfl,rfl⟩)|(go_at_call 153;refine(x.out _).mono ?_;rintro e w' ⟨rfl,rfl⟩));go_ret;exact⟨qaN j.out.symm,d.out⟩
def fieldOK(p m:Int)(mod:List Int):Bool:=shapeM p m mod && !(genM (mulM p.toNat m.toNat (mdOf m mod)) (p.toNat^m.toNat)).isEmpty
def errF(b:Bool):Int:=if b=true then 0 else 1
def SBoxF(w:World)(p m:Int)(A:Option Addr)(n c:Nat)(W:World):Prop:=
 Below w.heap.size w W/\w.heap.size<W.heap.size/\W.heap[w.heap.size]?=some (Ce p m A n c)
theorem SBoxF.grow{w:World}{p m:Int}{A:Option Addr}{n c:Nat}{W d:World}(h:SBoxF w p m A n c W)(b:Below W.heap.size W d):SBoxF w p m A n c d:=
 ⟨h.1.trans (b.mono (Nat.le_of_lt h.2.1)),Nat.lt_of_lt_of_le h.2.1 b.size,(b.block _ h.2.1).trans h.2.2⟩
def CutC(w _W0:World)(b:Bool)(v15:Value)(wx:World):Prop:=v15=.bool b/\Below w.heap.size w wx
theorem generator_s{p m:Int}{mod:List Int}(b:ShapeIs p m mod)(A:Option Addr)(c:Nat)(w:World)(d:IntsAt w w.heap.size A mod):
 zC 95 #[Ch p m A mod.length c,Y (orderM p m)] w fun e w'=>(∃v,e=.returned v/\GenV w' w.heap.size v (genM (mulM p.toNat m.toNat (mdOf m mod)) (p.toNat^m.toNat)))/\Below w.heap.size w w':=by have h:=generator_c p.toNat m.toNat A mod.length c (mdOf m mod) w b.small (b.mod d) b.lt;rw[b.p0,b.m0] at h;rw[b.ord];exact h
theorem fcheck_c(p m:Int)(mod:List Int)(A:Option Addr)(c:Nat)(w:World)(hA:IntsAt w w.heap.size A mod)(hl:mod.length<=9223372036854775807):
 zC 46 #[Ch p m A mod.length c] w fun e w'=>e=.returned (Y (errF (fieldOK p m mod)))/\Below w.heap.size w w':=by
 have X:=zH hA
 have H:Hid (∀W,w.heap.size<=W.heap.size->Below w.heap.size w W->zC 94 #[Ch p m A mod.length c] W fun e w'=>e=.returned (.bool (shapeM p m mod))/\Below W.heap.size W w'):=
  fun W h1 h2=>shape_c p m mod A c W ((hA.keep h2).more h1) hl
 have y:Hid (ShapeIs p m mod->∀W,w.heap.size<=W.heap.size->Below w.heap.size w W->zC 95 #[Ch p m A mod.length c,Y (orderM p m)] W fun e w'=>(∃v,e=.returned v/\GenV w' W.heap.size v (genM (mulM p.toNat m.toNat (mdOf m mod)) (p.toNat^m.toNat)))/\Below W.heap.size W w'):=
  fun hs W h1 h2=>generator_s hs A c W ((hA.keep h2).more h1)
 clear hA;go_enter Tryz.func46,Tryz.ntmps46;go_upto_region 1 with fail;have R:Hid ((w.alloc (Ce p m A mod.length c)).heap.size=w.heap.size+1):=U7;have f:Hid ((w.alloc (Ce p m A mod.length c)).heap[w.heap.size]?=some (.cells (Ci p m A mod.length c).toArray 29 (0,0))):=heap_alloc_new _ _;have u:Hid (Below w.heap.size w (w.alloc (Ce p m A mod.length c))):=(Below.refl _ _).alloc (Nat.le_refl _) _;generalize w.alloc (Ce p m A mod.length c)=C at *;have O:C.cell? (zA w.heap.size 0)=some (Y p):=cell_of_row _ _ 0 _ _ _ f.out;have P:C.cell? (zA w.heap.size 1)=some (Y m):=cell_of_row _ _ 1 _ _ _ f.out;have Q:C.cell? (zA w.heap.size 2)=some (zL A mod.length c):=cell_of_row _ _ 2 _ _ _ f.out;have d:w.heap.size<C.heap.size:=by have:=R.out;omega
 go_cut [15] (fun v15 wx=>CutC w C (!fieldOK p m mod) v15 wx);case first =>
  have x:=zH (H.out C.drew (Nat.le_of_lt d) u.out.drew);cases hsh:shapeM p m mod
  . (have z : Hid (fieldOK p m mod = false) := by show _ = _;unfold fieldOK;rw [hsh];rfl);have M:=zH (fun W h1 h2=>H.out W h1 h2);rw [hsh] at M;clear hsh y x;refine qaD (SBoxF w p m A mod.length c) U1 U1 ⟨u.out.drew,d,f.out⟩ ?_
    repeat (first
     | (apply qaJ rfl
        . intro W D
          obtain⟨_,_,t⟩:=D
          have Z:W.cell? (zA w.heap.size 0)=some (Y p):=cell_of_row _ _ 0 _ _ _ t
          have e1:W.cell? (zA w.heap.size 1)=some (Y m):=cell_of_row _ _ 1 _ _ _ t
          have e2:W.cell? (zA w.heap.size 2)=some (zL A mod.length c):=cell_of_row _ _ 2 _ _ _ t
          go_simp
          rfl
        go_simp)
     | (apply qaO rfl
        . intro W D
          go_simp
          exact⟨rfl,rfl⟩
        . intro W D
          exact(M.out W (Nat.le_of_lt D.2.1) D.1).mono (by rintro e w' ⟨rfl,hbw⟩;exact⟨rfl,D.grow hbw⟩)
        go_simp)
     |(apply qbI rfl;go_simp))
    refine qaE ?_;intro J D;have N:Hid (CutC w C (!fieldOK p m mod) (.bool true) J):=⟨by rw[z.out];rfl,D.1⟩;clear D O P Q;go_wp2_with fail;go_meet;exact N.out
  . have j := shape_is hsh;rw [hsh] at x;have i:=zH (y.out j);(have B:Hid (fieldOK p m mod=!(genM (mulM p.toNat m.toNat (mdOf m mod)) (p.toNat ^ m.toNat)).isEmpty):=by show _=_;unfold fieldOK;rw [hsh];rfl);clear hsh y j;generalize genM (mulM p.toNat m.toNat (mdOf m mod)) (p.toNat ^ m.toNat)=U at *;by_cases l:U=[]
    . (have z : Hid (fieldOK p m mod = false) := by show _ = _;rw [B.out,l];rfl)
      have s:Hid (∀ W,w.heap.size<=W.heap.size->Below w.heap.size w W->zC 95 #[Ch p m A mod.length c,Y (orderM p m)] W fun e w'=>e=.returned (zL none 0 0)/\Below W.heap.size W w'):=fun W h1 h2 =>
       (i.out W h1 h2).mono fun e w' ⟨⟨v,he,E⟩,K⟩=>by
         rcases E with⟨_,rfl⟩|⟨h,_⟩
         . exact⟨he,K⟩
         . exact absurd l h
      clear l i B;have I:∀(W:World)(a:Option Addr)(n c n' o:Nat),(binOp .eql 23 (zL a n c) (zL none n' o)).run Tryz.prog W=.ok (.bool a.isNone) W:=fun W a n c n' o=>Lib.run_eql_slice_nil W 23 3 a n c n' o Tryz.underlying23
      go_region_held3 (fun w'=>w'.cell? (zA w.heap.size 0)=some (Y p)/\w'.cell? (zA w.heap.size 1)=some (Y m)/\w'.cell? (zA w.heap.size 2)=some (zL A mod.length c))
       (first|go_keep|(go_split_ands;exact⟨(hb3.cell (p:=(zA w.heap.size 0)) b).trans am,(hb3.cell (p:=(zA w.heap.size 1)) b).trans am,(hb3.cell (p:=(zA w.heap.size 2)) b).trans am⟩)|(go_split_ands;exact⟨(hb1.cell (p:=(zA w.heap.size 0)) d).trans am,(hb1.cell (p:=(zA w.heap.size 1)) d).trans am,(hb1.cell (p:=(zA w.heap.size 2)) d).trans am⟩))
       (first|((with_reducible refine x.out.mono ?_);rintro e J ⟨rfl,hb1⟩;have b:w.heap.size<J.heap.size:=Nat.lt_of_lt_of_le d hb1.size;have q:Hid (Below w.heap.size w J):=u.out.drew.trans (hb1.mono (Nat.le_of_lt d)))|((with_reducible refine(qcX _ _ _).mono ?_);rintro e V ⟨rfl,rfl⟩)|((with_reducible refine(s.out _ (Nat.le_of_lt b) q.out).mono ?_);rintro e S ⟨rfl,hb3⟩))
      have N:Hid (CutC w C (!fieldOK p m mod) (.bool true) S):=⟨by rw[z.out];rfl,q.out.trans (hb3.mono (Nat.le_of_lt b))⟩;clear hb1 hb3 O P Q I;go_wp2_with fail;go_meet;exact N.out
    . have z : Hid (fieldOK p m mod = true) := by
       show _=_;rw[B.out];cases U with
       |nil=>exact absurd rfl l
       |cons a r=>rfl
      have s:Hid (∀ W,w.heap.size<=W.heap.size->Below w.heap.size w W->zC 95 #[Ch p m A mod.length c,Y (orderM p m)] W fun e w'=>(∃ (g k o:Nat),e=.returned (zS g k o))/\Below W.heap.size W w'):=fun W h1 h2 =>
       (i.out W h1 h2).mono fun e w' ⟨⟨v,he,E⟩,K⟩=>by
         rcases E with⟨h,_⟩|⟨_,g,o,rfl,_⟩
         . exact absurd h l
         . exact⟨⟨g,_,o,he⟩,K⟩
      clear l i B;have I:∀(W:World)(a:Option Addr)(n c n' o:Nat),(binOp .eql 23 (zL a n c) (zL none n' o)).run Tryz.prog W=.ok (.bool a.isNone) W:=fun W a n c n' o=>Lib.run_eql_slice_nil W 23 3 a n c n' o Tryz.underlying23
      go_region_held3 (fun w'=>w'.cell? (zA w.heap.size 0)=some (Y p)/\w'.cell? (zA w.heap.size 1)=some (Y m)/\w'.cell? (zA w.heap.size 2)=some (zL A mod.length c))
       (first|go_keep|(go_split_ands;exact⟨(hb3.cell (p:=(zA w.heap.size 0)) b).trans am,(hb3.cell (p:=(zA w.heap.size 1)) b).trans am,(hb3.cell (p:=(zA w.heap.size 2)) b).trans am⟩)|(go_split_ands;exact⟨(hb1.cell (p:=(zA w.heap.size 0)) d).trans am,(hb1.cell (p:=(zA w.heap.size 1)) d).trans am,(hb1.cell (p:=(zA w.heap.size 2)) d).trans am⟩))
       (first|((with_reducible refine x.out.mono ?_);rintro e J ⟨rfl,hb1⟩;have b:w.heap.size<J.heap.size:=Nat.lt_of_lt_of_le d hb1.size;have q:Hid (Below w.heap.size w J):=u.out.drew.trans (hb1.mono (Nat.le_of_lt d)))|((with_reducible refine(qcX _ _ _).mono ?_);rintro e V ⟨rfl,rfl⟩)|((with_reducible refine(s.out _ (Nat.le_of_lt b) q.out).mono ?_);rintro e S ⟨⟨g,k,o,rfl⟩,hb3⟩))
      have N:Hid (CutC w C (!fieldOK p m mod) (.bool false) S):=⟨by rw[z.out];rfl,q.out.trans (hb3.mono (Nat.le_of_lt b))⟩;clear hb1 hb3 O P Q I;go_wp2_with fail;go_meet;exact N.out
 case rest=>
  obtain⟨rfl,K⟩:=hcut;have T:=zH K;clear K O P Q y H;by_cases L:fieldOK p m mod=true
  . (have z:Hid (errF (fieldOK p m mod)=0):=by show _=_;rw[L];rfl);(have E:(!fieldOK p m mod)=false:=by rw[L];rfl);rw[E];clear E L;go_wp2_with fail;go_ret;exact⟨qaG z.out.symm,T.out⟩
  . (have z:Hid (errF (fieldOK p m mod)=1):=by show _=_;rw[show fieldOK p m mod=false by simpa using L];rfl);(have E:(!fieldOK p m mod)=true:=by simpa using L);rw[E];clear E L;go_wp2_with fail;go_ret;exact⟨qaG z.out.symm,T.out⟩
section
variable {P:Program}
theorem run_append_zero(w:World)(base:Nat)(t j e:TypeId)(i:TypeInfo)(size:Nat)(ht:P.underlying t=some (.slice e))(h:P.info? e=some i)(v:Value)(n:Nat)(xs:List Value)(f:w.ownsRow base e size v n xs)(A:Option Addr)(c:Nat):(Builtin.append_ #[t,t] j #[v,zL A 0 c]).run P w=.ok v w:=by
 rcases f.2 with⟨rfl,rfl⟩|⟨g,d,cur,rfl,_,_,b,_⟩
 . cases A<;>simp[Builtin.append_,run_underlying ht,sizeOf,typeInfo,h,Builtin.lenOf,Builtin.firstCells,loadCells,loadCellsFrom]
 . cases A<;>simp[Builtin.append_,run_underlying ht,sizeOf,typeInfo,h,Builtin.lenOf,Builtin.firstCells,b,storeCells,loadCells,loadCellsFrom]
theorem step_append_zero{ops:Array Oper}{o:Oper}{a:Act}{w:World}{K:Act->World->Prop}{Q:Exit->Act->World->Prop}{E:Prop}(f:o.guard=none)(s x:Operand)(t:TypeId)(l:o.op=.call { callee:=.builtin .append,args:=#[s,x],argTypes:=#[t,t] })(base:Nat)(e:TypeId)(i:TypeInfo)(size:Nat)(ht:P.underlying t=some (.slice e))(k:P.info? e=some i)(v:Value)(n:Nat)(xs:List Value)(m:a.eval s=v)(d:w.ownsRow base e size v n xs)(A:Option Addr)(g c:Nat)(j:g=0)(p:a.eval x=zL A g c)(h:K (a.put o.dst v) w):
 if Region.wanted o (yielded ops a.tmps)=true then Oper.wp P o a w K Q else E:=by
 subst j;have b:Region.wanted o (yielded ops a.tmps)=true:=by simp[Region.wanted,f]
 rw[if_pos b];unfold Oper.wp execOp;simp only[l,resolve,invoke,builtin,Sem.run_bind,Sem.run_pure,Result.andThen_ok,List.map_toArray,List.map_cons,List.map_nil,m,p,run_append_zero w base t o.type e i size ht k v n xs d A c];exact h
end
theorem IntsAt.news{w:World}{B:Nat}{b o:Nat}{zs:List Int}(h:IntsAt w B (some (zA b o)) zs):∀(j:Nat)(u:Value),(zs.map (Value.int .i64))[j]?=some u->w.cell? ((⟨b,o,none⟩:Addr).add j)=some u:=by
 intro j u d;have c:j<zs.length:=by simpa using(List.getElem?_eq_some_iff.1 d).1
 obtain⟨g,i,e,_,f⟩:=h U0;injection e with e;injection e with e1 e2;subst e1 e2;rw[Addr.add_mid,f j c,<- d];simp[List.getD,c]
def GFAt(w:World)(B gb p m:Nat)(l lg:List Nat):Prop:=
 gb<B/\∃(A3:Option Addr)(n3 c3 ge ce gl cl:Nat),w.heap[gb]?=some (Df p m A3 n3 c3 ((p^m:Nat):Int) ge l.length ce gl lg.length cl)/\
  IntsAt w B (zO ge) (nz l)/\IntsAt w B (zO gl) (nz lg)
theorem GFAt.keep{w w':World}{B r p m:Nat}{l t:List Nat}(h:GFAt w B r p m l t)(s:Below B w w'):GFAt w' B r p m l t:=by obtain⟨b,c,q,d,i,f,j,g,k,n,o⟩:=h;exact⟨b,c,q,d,i,f,j,g,(s.block r b).trans k,n.keep s,o.keep s⟩
theorem GFAt.more{w:World}{B B' r p m:Nat}{l t:List Nat}(h:GFAt w B r p m l t)(s:B<=B'):GFAt w B' r p m l t:=by obtain⟨q,b,o,c,g,d,i,f,j,k,n⟩:=h;exact⟨U0,b,o,c,g,d,i,f,j,k.more s,n.more s⟩
def GFUp(w:World)(lo gb p m:Nat)(l lg:List Nat):Prop:=
 lo<=gb/\gb<w.heap.size/\∃(A3:Option Addr)(n3 c3 ge ce gl cl:Nat),lo<=ge/\ge<w.heap.size/\lo<=gl/\gl<w.heap.size/\w.heap[gb]?=some (Df p m A3 n3 c3 ((p^m:Nat):Int) ge l.length ce gl lg.length cl)/\
  IntsAt w w.heap.size (zO ge) (nz l)/\IntsAt w w.heap.size (zO gl) (nz lg)
theorem GFUp.at_{w:World}{t r p m:Nat}{l s:List Nat}(h:GFUp w t r p m l s):GFAt w w.heap.size r p m l s:=by obtain⟨_,j,b,q,c,g,d,i,f,_,_,_,_,k,n,o⟩:=h;exact⟨j,b,q,c,g,d,i,f,k,n,o⟩
def CutN(w:World)(p m:Int)(q:Nat)(ge k ce:Nat)(l:List Nat)(v6:Value)(wx:World):Prop:=
 ∃(gb:Nat)(A3:Option Addr)(n3 c3 gl:Nat),v6=zP gb/\w.heap.size<gb/\gb≠gl/\ge≠gl/\
  wx.heap[gb]?=some (Df p m A3 n3 c3 q ge k ce gl q q)/\
  Row wx w.heap.size ge ce (nz l)/\Row wx (w.heap.size+1) gl q (nz (List.replicate q 0))/\Below w.heap.size w wx
theorem row_zz(W:World){b:Array Value}{q B:Nat}(f:b=madeCells (Y 0).cells (q*1))(c:B<=W.heap.size)(d:q<=maxLen):Row (W.alloc (.cells b 3)) B W.heap.size q (nz (List.replicate q 0)):=by subst f;exact Row.of_make (World.ownsRow_lit W _ q c d (size_madeCells _ _))
def RelL(w:World)(p m:Int)(q gb ge gl ce:Nat)(A3:Option Addr)(n3 c3:Nat)(l:List Nat)(v39:Value)(wr:World):Prop:=
 ∃n:Nat,n<=l.length/\v39=Y n/\
  wr.heap[gb]?=some (Df p m A3 n3 c3 q ge l.length ce gl q q)/\
  Row wr w.heap.size ge ce (nz l)/\Row wr (w.heap.size+1) gl q (nz (logGo l (List.replicate q 0) n))/\Below w.heap.size w wr
theorem cell3{w:World}{p:Addr}{v:Value}(h:w.cell? p=some v)(d:p.block<w.heap.size)(a b c:Obj):(((w.alloc a).alloc b).alloc c).drew.cell? p=some v:=by show(((w.alloc a).alloc b).alloc c).cell? p=some v;rw[World.cell?_alloc_lt _ _ _ so,World.cell?_alloc_lt _ _ _ so,World.cell?_alloc_lt _ _ _ d];exact h
theorem CutN.drew{w:World}{p m:Int}{q y k x:Nat}{l:List Nat}{v:Value}{z:World}(h:CutN w p m q y k x l v z):CutN w p m q y k x l v z.drew:=by obtain⟨d,b,u,c,f,g,i,j,n,o,r,s,t⟩:=h;exact⟨d,b,u,c,f,g,i,j,n,o,r,s,t.drew⟩
theorem cutN_mk{w b:World}{p m:Int}{q d k g f:Nat}{l:List Nat}{A3:Option Addr}{n3 c3:Nat}(j:Row b w.heap.size d g (nz l))(i:Row b (w.heap.size+1) f q (nz (List.replicate q 0)))(n:Below w.heap.size w b)(h:d≠f)(c:w.heap.size<b.heap.size):
 CutN w p m q d k g l (zP b.heap.size) (b.alloc (Df p m A3 n3 c3 q d k g f q q)):=
 ⟨_,A3,n3,c3,f,rfl,c,by have:=i.lt;omega,h,heap_alloc_new _ _,j.alloc _,i.alloc _,n.alloc (Nat.le_of_lt c) _⟩
theorem fnew_up(p m:Int)(mod:List Int)(A:Option Addr)(c:Nat)(w:World)(hA:IntsAt w w.heap.size A mod)(cs:fieldOK p m mod=true):
 zC 72 #[Ch p m A mod.length c] w fun e w'=>(∃gb,e=.returned (.tuple (Dm gb))/\
  GFUp w' w.heap.size gb p.toNat m.toNat (genM (mulM p.toNat m.toNat (mdOf m mod)) (p.toNat^m.toNat)) (logL (genM (mulM p.toNat m.toNat (mdOf m mod)) (p.toNat^m.toNat)) (p.toNat^m.toNat)))/\Below w.heap.size w w':=by
 have a7:shapeM p m mod=true:=by unfold fieldOK at cs;rw[Bool.and_eq_true] at cs;exact cs.1
 have ae:genM (mulM p.toNat m.toNat (mdOf m mod)) (p.toNat^m.toNat)≠[]:=by unfold fieldOK at cs;rw[Bool.and_eq_true] at cs;intro h;rw[h] at cs;simp at cs
 have K:=shape_is a7;have cl:mod.length<=8:=by
  by_cases hm:m=1
  . rw[K.one hm];simp
  . rw[K.len hm];exact K.small.m2
 have b6:=zH K;have HA:=zH hA;have ak:=zH (qaV (p:=p.toNat) (m:=m.toNat) (by have:=K.small.p1;omega) K.small.m1 (mdOf m mod));have al:=zH (genM_tab ak.out ae);have co:=K.small.q;have cn:=ak.out.q1;have bd:=zH K.ord
 have bc:Hid (∀W,w.heap.size<=W.heap.size->Below w.heap.size w W->zC 94 #[Ch p m A mod.length c] W fun e w'=>e=.returned (.bool true)/\Below W.heap.size W w'):=
  fun W h1 h2=>by
   have:=shape_c p m mod A c W ((hA.keep h2).more h1) U0
   rw[a7] at this
   exact this
 have ba:Hid (∀ W,w.heap.size<=W.heap.size->Below w.heap.size w W->zC 95 #[Ch p m A mod.length c,Y ((p.toNat ^ m.toNat:Nat):Int)] W fun e w'=>(∃ g c',e=.returned (zS g (genM (mulM p.toNat m.toNat (mdOf m mod)) (p.toNat ^ m.toNat)).length c')/\Row w' W.heap.size g c' (nz (genM (mulM p.toNat m.toNat (mdOf m mod)) (p.toNat ^ m.toNat))))/\Below W.heap.size W w') :=
  fun W h1 h2=>by
   have:=generator_s K A c W ((hA.keep h2).more h1)
   rw[K.ord] at this
   refine this.mono fun e w' ⟨⟨v,he,hv⟩,hb⟩=>?_
   rcases hv with⟨h,_⟩|⟨_,g,c',rfl,hr⟩
   . exact absurd h ae
   . rw[qaA] at he
     exact⟨⟨g,c',he,hr⟩,hb⟩
 have bb:Hid (∀W:World,zC 96 #[Y p,Y m] W fun e w'=>e=.returned (Y ((p.toNat^m.toNat:Nat):Int))/\W=w'):=fun W=>by have:=qcX p m W;rw[K.ord] at this;exact this
 have b2:=zH K.p0;have b1:=zH K.m0;clear a7 ae K hA cs b6 bd;generalize cf:genM (mulM p.toNat m.toNat (mdOf m mod)) (p.toNat^m.toNat)=l at *;generalize cg:mulM p.toNat m.toNat (mdOf m mod)=mul at *;generalize bt:p.toNat^m.toNat=q at *;have b3:=zH bt;have br:l.length=q-1:=al.out.len;have bz:=zH br;clear cf cg bt br;obtain⟨i0,hi,bv,bw,a8⟩:=qaF infoInt;have HI:=zH hi;have aa:=zH bv;have ab:=zH bw;have ac:=zH a8;have ch:=zH (show i0.bytes*q<=281474976710656 by rw[a8];omega);have R:=zH (show q<=maxLen by unfold maxLen;omega);clear hi bv bw a8;go_enter Tryz.func72,Tryz.ntmps72;have Z:Hid ((w.alloc (Ce p m A mod.length c)).heap.size=w.heap.size+1):=U7;have s:Hid ((w.alloc (Ce p m A mod.length c)).heap[w.heap.size]?=some (.cells (Ci p m A mod.length c).toArray 29 (0,0))):=heap_alloc_new _ _;have aq:Hid (Below w.heap.size w (w.alloc (Ce p m A mod.length c))):=(Below.refl _ _).alloc (Nat.le_refl _) _;go_wp2_with fail;generalize w.alloc (Ce p m A mod.length c)=W0 at *;(with_reducible refine(bc.out W0 (by have:=Z.out;omega) aq.out).mono ?_);rintro e w1 ⟨rfl,hb1⟩;have O:w.heap.size<w1.heap.size:=by have:=Z.out;have:=hb1.size;omega
 have ar:=zH (aq.out.trans (hb1.mono (by have:=Z.out;omega)));have S:=zH ((hb1.block w.heap.size (by have:=Z.out;omega)).trans s.out);clear hb1 aq s Z;clear W0;have a0:w1.cell? (zA w.heap.size 0)=some (Y p):=cell_of_row _ _ 0 _ _ _ S.out;have a1:w1.cell? (zA w.heap.size 1)=some (Y m):=cell_of_row _ _ 1 _ _ _ S.out;have be:=zH (range_of_row S.out);go_wp2_with (first | (go_at_call 96;refine (bb.out _).mono ?_;rintro e w' ⟨rfl,rfl⟩) | (refine wpList_load_mid rfl 29 (.tmp 1) rfl w.heap.size 0 rfl (Ci p m A mod.length c) _ be.out Tryz.underlying29 rfl fieldSize ?_));(with_reducible refine (ba.out w1 (Nat.le_of_lt O) ar.out).mono ?_);rintro e d ⟨⟨ge,ce,rfl,hrow⟩,hb2⟩;have bu:w.heap.size<d.heap.size:=Nat.lt_of_lt_of_le O hb2.size;have t:=zH (ar.out.trans (hb2.mono (Nat.le_of_lt O)));have ai:=zH ((hb2.block w.heap.size O).trans S.out);have ad:=hrow.lt;have L:=zH (hrow.base (B':=w.heap.size) U0);clear hrow hb2 ar S be a0 a1;have cj:Hid (w.heap.size<ge):=Nat.lt_of_lt_of_le O ad.1;have aj:Hid (ge<d.heap.size):=ad.2;clear ad O;clear w1;have b9:∀ (W:World) (a:Option Addr) (n c n' c':Nat),(binOp .eql 23 (zL a n c) (zL none n' c')).run Tryz.prog W=.ok (.bool a.isNone) W:=fun W a n c n' c'=>Lib.run_eql_slice_nil W 23 3 a n c n' c' Tryz.underlying23;go_upto_region 7 with fail;clear b9;have z0:d.cell? (zA w.heap.size 0)=some (Y p):=cell_of_row _ _ 0 _ _ _ ai.out;have z1:d.cell? (zA w.heap.size 1)=some (Y m):=cell_of_row _ _ 1 _ _ _ ai.out;have z2:d.cell? (zA w.heap.size 2)=some (zL A mod.length c):=cell_of_row _ _ 2 _ _ _ ai.out;go_cut [6] (fun v6 wx=>CutN w p m q ge l.length ce l v6 wx);case first =>
  by_cases bs:mod.length=0
  . have r : w.heap.size < d.heap.size := bu;have ax:=zH bs;clear bs;have bi:=zH z0;have bj:=zH z1;have bm:=zH z2;obtain ⟨f,J⟩:∃ f,f=madeCells (Y 0).cells (q*1):=⟨_,rfl⟩;have N:=zH J;(have a5:∀ W:World,(Instr.makeSlice 23 (Y (q:Int)) (Y (q:Int))).run Tryz.prog W=.ok (zS W.heap.size q q) (W.alloc (.cells f 3)):=fun W=>by have:=run_make (P:=Tryz.prog) W 23 3 i0 (Y 0) Tryz.underlying23 HI.out aa.out .i64 .i64 (q:Int) (q:Int) U0 (Int.le_refl _) (by rw [ac.out];omega) U0;rw [ab.out,Int.toNat_natCast,<- J] at this;exact this);clear J;have T:Hid ((d.alloc (.cells #[] 3)).drew.ownsRow (w.heap.size+1) 3 1 (zS d.heap.size 0 0) 0 []):=World.ownsRow_made d #[] 0 r U3 rfl;have U:Hid (((d.alloc (.cells #[] 3)).alloc (.cells f 3)).drew.ownsRow (w.heap.size+1) 3 1 (zS d.heap.size 0 0) 0 []):=World.ownsRow.alloc (World.ownsRow_made d #[] 0 r U3 rfl) _;(have V:Hid (((d.alloc (.cells f 3)).alloc (.cells #[] 3)).drew.ownsRow (w.heap.size+1) 3 1 (zS (d.heap.size+1) 0 0) 0 []):=by have h:=World.ownsRow_made (e:=3) (base:=w.heap.size+1) (size:=1) (d.alloc (.cells f 3)) #[] 0 so U3 rfl;rw [show (d.alloc (.cells f 3)).heap.size=d.heap.size+1 by simp] at h;exact h)
    go_region_held3 (fun w'=>w'.cell? (zA w.heap.size 0)=some (Y p)/\w'.cell? (zA w.heap.size 1)=some (Y m)/\w'.cell? (zA w.heap.size 2)=some (zL A mod.length c))
     (first|(with_reducible exact⟨cell3 bi.out r _ _ _,cell3 bj.out r _ _ _,cell3 bm.out r _ _ _⟩)|go_keep)
     (first|(refine step_append_zero rfl _ _ _ rfl (w.heap.size+1) 3 i0 1 Tryz.underlying23 HI.out (zS d.heap.size 0 0) 0 [] (by rfl) T.out A mod.length c ax.out (by rfl) ?_)|(refine step_append_zero rfl _ _ _ rfl (w.heap.size+1) 3 i0 1 Tryz.underlying23 HI.out (zS d.heap.size 0 0) 0 [] (by rfl) U.out A mod.length c ax.out (by rfl) ?_)|(refine step_append_zero rfl _ _ _ rfl (w.heap.size+1) 3 i0 1 Tryz.underlying23 HI.out (zS (d.heap.size+1) 0 0) 0 [] (by rfl) V.out A mod.length c ax.out (by rfl) ?_))
    (all_goals (clear a5 z0 z1 z2));(all_goals (have bq:=aj.out))
    all_goals
     have b7:Hid (CutN w p m q ge l.length ce l (zP (d.heap.size+1+1)) (((d.alloc (.cells #[] 3)).alloc (.cells f 3)).alloc (Cw p m d.heap.size 0 0 q ge l.length ce (d.heap.size+1) q q)).drew):=by
      have hz:=row_zz (d.alloc (.cells #[] 3)) (B:=w.heap.size+1) N.out so R.out
      rw[show(d.alloc (.cells #[] 3)).heap.size=d.heap.size+1 by simp] at hz
      have h:=cutN_mk (p:=p) (m:=m) (k:=l.length) (A3:=some (zA d.heap.size 0)) (n3:=0) (c3:=0) ((L.out.alloc (.cells #[] 3)).alloc (.cells f 3)) hz ((t.out.alloc (Nat.le_of_lt r) _).alloc so _) U0 so
      rw[show((d.alloc (.cells #[] 3)).alloc (.cells f 3)).heap.size=d.heap.size+1+1 by simp] at h
      exact h.drew
     have b8:Hid (CutN w p m q ge l.length ce l (zP (d.heap.size+1+1)) (((d.alloc (.cells f 3)).alloc (.cells #[] 3)).alloc (Cw p m (d.heap.size+1) 0 0 q ge l.length ce d.heap.size q q)).drew):=by
      have hz:=(row_zz d (B:=w.heap.size+1) N.out r R.out).alloc (.cells #[] 3)
      have h:=cutN_mk (p:=p) (m:=m) (k:=l.length) (A3:=some (zA (d.heap.size+1) 0)) (n3:=0) (c3:=0) ((L.out.alloc (.cells f 3)).alloc (.cells #[] 3)) hz ((t.out.alloc (Nat.le_of_lt r) _).alloc so _) U0 so
      rw[show((d.alloc (.cells f 3)).alloc (.cells #[] 3)).heap.size=d.heap.size+1+1 by simp] at h
      exact h.drew
     go_wp2_with fail
     go_meet
     first
      |exact b7.out
      |exact b8.out
  . obtain ⟨b,o,rfl,ck,bn⟩ := (HA.out.keep t.out) U0;have ci:=zH bn;clear bn;have r:w.heap.size<d.heap.size:=bu;obtain ⟨f,J⟩:∃ f,f=madeCells (Y 0).cells (q*1):=⟨_,rfl⟩;have N:=zH J;(have a5:∀ W:World,(Instr.makeSlice 23 (Y (q:Int)) (Y (q:Int))).run Tryz.prog W=.ok (zS W.heap.size q q) (W.alloc (.cells f 3)):=fun W=>by have:=run_make (P:=Tryz.prog) W 23 3 i0 (Y 0) Tryz.underlying23 HI.out aa.out .i64 .i64 (q:Int) (q:Int) U0 (Int.le_refl _) (by rw [ac.out];omega) U0;rw [ab.out,Int.toNat_natCast,<- J] at this;exact this);clear J;(have E:Hid (w.heap.size+1<=(d.alloc (.cells #[] 3)).drew.heap.size):=by show _<=_;rw [show (d.alloc (.cells #[] 3)).drew.heap.size=d.heap.size+1 by simp];omega);have T:Hid ((d.alloc (.cells #[] 3)).drew.ownsRow (w.heap.size+1) 3 1 (zS d.heap.size 0 0) 0 []):=World.ownsRow_made d #[] 0 r U3 rfl;have an:Hid (Below w.heap.size w (d.alloc (.cells #[] 3)).drew):=(t.out.alloc (Nat.le_of_lt r) _).drew;have ay:Hid (∀ (j:Nat) (u:Value),(mod.map (Value.int .i64))[j]?=some u->(d.alloc (.cells #[] 3)).drew.cell? ((⟨b,o,none⟩:Addr).add j)=some u):=(HA.out.keep an.out).news;have au:Hid (Row (d.alloc (.cells #[] 3)).drew w.heap.size ge ce (nz l)):=L.out.alloc _;(have H:Hid (w.heap.size+1<=((d.alloc (.cells #[] 3)).alloc (.cells f 3)).drew.heap.size):=by show _<=_;rw [show ((d.alloc (.cells #[] 3)).alloc (.cells f 3)).drew.heap.size=d.heap.size+2 by simp];omega);have U:Hid (((d.alloc (.cells #[] 3)).alloc (.cells f 3)).drew.ownsRow (w.heap.size+1) 3 1 (zS d.heap.size 0 0) 0 []):=World.ownsRow.alloc (World.ownsRow_made d #[] 0 r U3 rfl) _;have ao:Hid (Below w.heap.size w ((d.alloc (.cells #[] 3)).alloc (.cells f 3)).drew):=((t.out.alloc (Nat.le_of_lt r) _).alloc so _).drew;have az:Hid (∀ (j:Nat) (u:Value),(mod.map (Value.int .i64))[j]?=some u->((d.alloc (.cells #[] 3)).alloc (.cells f 3)).drew.cell? ((⟨b,o,none⟩:Addr).add j)=some u):=(HA.out.keep ao.out).news;have av:Hid (Row ((d.alloc (.cells #[] 3)).alloc (.cells f 3)).drew w.heap.size ge ce (nz l)):=(L.out.alloc _).alloc _;(have I:Hid (w.heap.size+1<=((d.alloc (.cells f 3)).alloc (.cells #[] 3)).drew.heap.size):=by show _<=_;rw [show ((d.alloc (.cells f 3)).alloc (.cells #[] 3)).drew.heap.size=d.heap.size+2 by simp];omega);(have V:Hid (((d.alloc (.cells f 3)).alloc (.cells #[] 3)).drew.ownsRow (w.heap.size+1) 3 1 (zS (d.heap.size+1) 0 0) 0 []):=by have h:=World.ownsRow_made (e:=3) (base:=w.heap.size+1) (size:=1) (d.alloc (.cells f 3)) #[] 0 so U3 rfl;rw [show (d.alloc (.cells f 3)).heap.size=d.heap.size+1 by simp] at h;exact h);have ap:Hid (Below w.heap.size w ((d.alloc (.cells f 3)).alloc (.cells #[] 3)).drew):=((t.out.alloc (Nat.le_of_lt r) _).alloc so _).drew;have a2:Hid (∀ (j:Nat) (u:Value),(mod.map (Value.int .i64))[j]?=some u->((d.alloc (.cells f 3)).alloc (.cells #[] 3)).drew.cell? ((⟨b,o,none⟩:Addr).add j)=some u):=(HA.out.keep ap.out).news;have aw:Hid (Row ((d.alloc (.cells f 3)).alloc (.cells #[] 3)).drew w.heap.size ge ce (nz l)):=(L.out.alloc _).alloc _;(have X:Hid (∀ u∈mod.map (Value.int .i64),u.oneCell'=true):=fun u hu=>by obtain ⟨z,_,rfl⟩:=List.mem_map.1 hu;rfl);(have bf:Hid (Row ((d.alloc (.cells #[] 3)).alloc (.cells f 3)).drew (w.heap.size+1) (d.heap.size+1) q (nz (List.replicate q 0))):=by have h:=row_zz (d.alloc (.cells #[] 3)) (B:=w.heap.size+1) N.out so R.out;rw [show (d.alloc (.cells #[] 3)).heap.size=d.heap.size+1 by simp] at h;exact h);have bg:Hid (Row ((d.alloc (.cells f 3)).alloc (.cells #[] 3)).drew (w.heap.size+1) d.heap.size q (nz (List.replicate q 0))):=(row_zz d (B:=w.heap.size+1) N.out r R.out).alloc _;have bq:=aj.out
    go_region_held3 (fun w'=>w'.cell? (zA w.heap.size 0)=some (Y p)/\w'.cell? (zA w.heap.size 1)=some (Y m)/\w'.cell? (zA w.heap.size 2)=some (zL (some (zA b o)) mod.length c))
     (first|go_keep|(go_split_ands;exact⟨(i.cell_far (zA w.heap.size 0) U6 V2).trans am,(i.cell_far (zA w.heap.size 1) U6 V2).trans am,(i.cell_far (zA w.heap.size 2) U6 V2).trans am⟩))
     (first|(refine step_append_lies _ (by rfl) _ _ _ (by rfl) (w.heap.size+1) 3 i0 _ 1 8 Tryz.underlying23 HI.out aa.out ab.out ac.out rfl U0 (zS d.heap.size 0 0) 0 [] (by rfl) T.out (zA b o) mod.length c (mod.map (Value.int .i64)) (by rfl) U2 ay.out X.out U0 U3 U0 E.out _ rfl ?_;intro ga ca y a6 i a4 af;have Q:w.heap.size<y.heap.size:=Nat.lt_of_lt_of_le E.out i.size;have HE:Hid (Row y w.heap.size ge ce (nz l)):=au.out.grown i V0;have HW:Hid (Below w.heap.size w y):=an.out.grown i (Nat.le_of_lt E.out) (fun k hk=>by simp[Value.ownBlock] at hk;omega))|(refine step_append_lies _ (by rfl) _ _ _ (by rfl) (w.heap.size+1) 3 i0 _ 1 8 Tryz.underlying23 HI.out aa.out ab.out ac.out rfl U0 (zS d.heap.size 0 0) 0 [] (by rfl) U.out (zA b o) mod.length c (mod.map (Value.int .i64)) (by rfl) U2 az.out X.out U0 U3 U0 H.out _ rfl ?_;intro ga ca y a6 i a4 af;have Q:w.heap.size<y.heap.size:=Nat.lt_of_lt_of_le H.out i.size;have HE:Hid (Row y w.heap.size ge ce (nz l)):=av.out.grown i V0;have HW:Hid (Below w.heap.size w y):=ao.out.grown i (Nat.le_of_lt H.out) (fun k hk=>by simp[Value.ownBlock] at hk;omega);have a3:Hid (Row y (w.heap.size+1) (d.heap.size+1) q (nz (List.replicate q 0))):=bf.out.grown i (by simp[Value.ownBlock]))|(refine step_append_lies _ (by rfl) _ _ _ (by rfl) (w.heap.size+1) 3 i0 _ 1 8 Tryz.underlying23 HI.out aa.out ab.out ac.out rfl U0 (zS (d.heap.size+1) 0 0) 0 [] (by rfl) V.out (zA b o) mod.length c (mod.map (Value.int .i64)) (by rfl) U2 a2.out X.out U0 U3 U0 I.out _ rfl ?_;intro ga ca y a6 i a4 af;have Q:w.heap.size<y.heap.size:=Nat.lt_of_lt_of_le I.out i.size;have HE:Hid (Row y w.heap.size ge ce (nz l)):=aw.out.grown i V0;have HW:Hid (Below w.heap.size w y):=ap.out.grown i (Nat.le_of_lt I.out) (fun k hk=>by simp[Value.ownBlock] at hk;omega);have a3:Hid (Row y (w.heap.size+1) d.heap.size q (nz (List.replicate q 0))):=bg.out.grown i (by simp[Value.ownBlock])))
    all_goals (clear a5 a6 i a4 z0 z1 z2)
    . (have HX:Hid (CutN w p m q ge l.length ce l (zP (y.heap.size+1)) ((y.alloc (.cells f 3)).alloc (Cw p m ga mod.length ca q ge l.length ce y.heap.size q q))):=by have h:=cutN_mk (p:=p) (m:=m) (k:=l.length) (A3:=some (zA ga 0)) (n3:=mod.length) (c3:=ca) (HE.out.alloc (.cells f 3)) (row_zz y (B:=w.heap.size+1) N.out Q R.out) (HW.out.alloc (Nat.le_of_lt Q) _) (by have:=HE.out.lt;omega) so;rw[show(y.alloc (.cells f 3)).heap.size=y.heap.size+1 by simp] at h;exact h);go_wp2_with fail;go_meet;exact HX.out
    . have HX:=zH (cutN_mk (p:=p) (m:=m) (k:=l.length) (A3:=some (zA ga 0)) (n3:=mod.length) (c3:=ca) HE.out a3.out HW.out U0 Q);go_wp2_with fail;go_meet;exact HX.out
    . have HX:=zH (cutN_mk (p:=p) (m:=m) (k:=l.length) (A3:=some (zA ga 0)) (n3:=mod.length) (c3:=ca) HE.out a3.out HW.out U0 Q);go_wp2_with fail;go_meet;exact HX.out
 case rest =>
  obtain⟨gb,A3,n3,c3,gl,rfl,cd,ad,bp,D,ag,ah,hb⟩:=hcut;have HS:Hid (RelL w p m q gb ge gl ce A3 n3 c3 l (Y ((0:Nat):Int)) wc):=⟨0,Nat.zero_le _,rfl,D,ag,ah,hb⟩;have cm:l.length<=256:=by rw[bz.out];omega
  have b0:Hid (∀n,n<l.length->l.getD n 0<q):=fun n hn=>by(have e:l.getD n 0=l[n]:=by simp[List.getD,hn]);rw[e];exact al.out.lt _ (List.getElem_mem hn)
  clear D ag ah hb z0 z1 z2 bc ba bb ai L;go_wp2_with fail;go_loopw [39] (fun v39 wr=>RelL w p m q gb ge gl ce A3 n3 c3 l v39 wr) (fun v39 _=>l.length-(intOf v39).toNat);case atStart=>exact HS.out
  case round =>
   obtain⟨n,hn,rfl,D,ag,ah,hb⟩:=hrel;have s:=zH D;have M:=zH ag;have C:=zH ah;have a9:=zH hb;clear D ag ah hb HS;(have bx:Hid ((logGo l (List.replicate q 0) n).length=q):=by show _=_;rw[qcL,List.length_replicate]);by_cases af:n<l.length
   . have hx := b0.out n af;(have y0:wr.cell? (zA ge n)=some (Y ((l.getD n 0:Nat):Int)):=by rw [<- qaC];exact M.out.cell (by rw [qaA];exact af));have y1:wr.cell? (zA gb 5)=some (zS gl q q):=cell_of_row _ _ 5 _ _ _ s.out;have bh:Hid ((logGo l (List.replicate q 0) n).set (l.getD n 0) n=logGo l (List.replicate q 0) (n+1)):=rfl;(have y2:wr.cell? (zA gl (l.getD n 0))=some (Y ((logGo l (List.replicate q 0) n).getD (l.getD n 0) 0:Nat)):=by rw [<- qaC];exact C.out.cell (by rw [qaA,bx.out];exact hx));have f2:=C.out.frozen (l.getD n 0);generalize l.getD n 0=x at *;have cq:(0:Int)<=(x:Int):=U0;have cr:(x:Int)<(q:Int):=U0;go_wp2_with fail;go_roundw;case rel =>
      refine⟨n+1,U0,gn,?_,M.out.far (p:=(zA gl x)) bp _,?_,a9.out.setCell (p:=(zA gl x)) (by have:=C.out.lt;show w.heap.size<=gl;omega) _⟩
      . exact(Below.heap_setCell wr (zA gl x) _ gb ad).trans s.out
      . rw[<- bh.out,<- qbC];exact C.out.set x n
     case measure=>exact mE
   . (obtain rfl : n = l.length := by omega);have bo:gb<wr.heap.size:=by
      rcases Nat.lt_or_ge gb wr.heap.size with h|h
      . exact h
      . have:=s.out;rw[Array.getElem?_eq_none h] at this;cases this
     go_wp2_with fail;go_ret2;refine⟨⟨gb,rfl,Nat.le_of_lt cd,bo,A3,n3,c3,ge,ce,gl,q,M.out.lt.1,M.out.lt.2,Nat.le_trans (Nat.le_succ _) C.out.lt.1,C.out.lt.2,?_,M.out.ints M.out.lt.2,C.out.ints C.out.lt.2⟩,a9.out⟩;rw[b2.out,b1.out,b3.out];(have e:(logL l q).length=q:=by unfold logL;rw[qcL,List.length_replicate]);rw[e];exact s.out
theorem fnew_ok(p m:Int)(mod:List Int)(A:Option Addr)(c:Nat)(w:World)(d:IntsAt w w.heap.size A mod)(b:fieldOK p m mod=true):
 zC 72 #[Ch p m A mod.length c] w fun e w'=>(∃gb,e=.returned (.tuple (Dm gb))/\w.heap.size<=gb/\
  GFAt w' w'.heap.size gb p.toNat m.toNat (genM (mulM p.toNat m.toNat (mdOf m mod)) (p.toNat^m.toNat)) (logL (genM (mulM p.toNat m.toNat (mdOf m mod)) (p.toNat^m.toNat)) (p.toNat^m.toNat)))/\Below w.heap.size w w':=
 (fnew_up p m mod A c w d b).mono fun _ _ ⟨⟨gb,he,hg⟩,hb⟩=>⟨⟨gb,he,hg.1,hg.at_⟩,hb⟩
theorem fnew_no(p m:Int)(mod:List Int)(A:Option Addr)(c:Nat)(w:World)(D:IntsAt w w.heap.size A mod)(E:mod.length<=9223372036854775807)(C:fieldOK p m mod=false):
 zC 72 #[Ch p m A mod.length c] w fun e w'=>e=.returned (.tuple #[.pointer none,Y 1])/\Below w.heap.size w w':=by
 have b:Hid ((w.alloc (Ce p m A mod.length c)).heap.size=w.heap.size+1):=U7;have i:Hid ((w.alloc (Ce p m A mod.length c)).heap[w.heap.size]?=some (.cells (Ci p m A mod.length c).toArray 29 (0,0))):=heap_alloc_new _ _;have d:Hid (Below w.heap.size w (w.alloc (Ce p m A mod.length c))):=(Below.refl _ _).alloc (Nat.le_refl _) _;cases hsh:shapeM p m mod
 . have k : Hid (∀ W,w.heap.size <= W.heap.size -> Below w.heap.size w W -> zC 94 #[Ch p m A mod.length c] W fun e w' => e = .returned (.bool false) /\ Below W.heap.size W w') :=
    fun W h1 h2=>by
     have:=shape_c p m mod A c W ((D.keep h2).more h1) E
     rw[hsh] at this
     exact this
   clear hsh C D;go_enter Tryz.func72,Tryz.ntmps72;go_wp2_with fail;generalize w.alloc (Ce p m A mod.length c)=s at *;(with_reducible refine(k.out s (by have:=b.out;omega) d.out).mono ?_);rintro e r ⟨rfl,hb1⟩;have f:=zH (d.out.trans (hb1.mono (by have:=b.out;omega)));clear hb1;go_wp2_with fail;go_ret2;exact⟨rfl,f.out⟩
 . have u := shape_is hsh;(have j:genM (mulM p.toNat m.toNat (mdOf m mod)) (p.toNat ^ m.toNat)=[]:=by unfold fieldOK at C;rw [hsh,Bool.true_and,Bool.not_eq_false'] at C;exact List.isEmpty_iff.1 C)
   have k:Hid (∀W,w.heap.size<=W.heap.size->Below w.heap.size w W->zC 94 #[Ch p m A mod.length c] W fun e w'=>e=.returned (.bool true)/\Below W.heap.size W w'):=
    fun W h1 h2=>by
     have:=shape_c p m mod A c W ((D.keep h2).more h1) E
     rw[hsh] at this
     exact this
   have t:Hid (∀W,w.heap.size<=W.heap.size->Below w.heap.size w W->zC 95 #[Ch p m A mod.length c,Y (orderM p m)] W fun e w'=>e=.returned (zL none 0 0)/\Below W.heap.size W w'):=
    fun W h1 h2=>by
     have:=generator_s u A c W ((D.keep h2).more h1)
     refine this.mono fun e w' ⟨⟨v,he,hv⟩,hb⟩=>?_
     rcases hv with⟨_,rfl⟩|⟨h,_⟩
     . exact⟨he,hb⟩
     . exact absurd j h
   clear hsh C D u j;go_enter Tryz.func72,Tryz.ntmps72;go_wp2_with fail;generalize w.alloc (Ce p m A mod.length c)=s at *;(with_reducible refine(k.out s (by have:=b.out;omega) d.out).mono ?_);rintro e r ⟨rfl,hb1⟩;(have q:w.heap.size<r.heap.size:=by have:=b.out;have:=hb1.size;omega);have f:=zH (d.out.trans (hb1.mono (by have:=b.out;omega)));have g:=zH ((hb1.block w.heap.size (by have:=b.out;omega)).trans i.out);clear hb1 d i b;clear s;have x:r.cell? (zA w.heap.size 0)=some (Y p):=cell_of_row _ _ 0 _ _ _ g.out;have y:r.cell? (zA w.heap.size 1)=some (Y m):=cell_of_row _ _ 1 _ _ _ g.out;have o:=zH (range_of_row g.out);go_wp2_with (first|(go_at_call 96;refine(qcX _ _ _).mono ?_;rintro e w' ⟨rfl,rfl⟩)|(refine wpList_load_mid rfl 29 (.tmp 1) rfl w.heap.size 0 rfl (Ci p m A mod.length c) _ o.out Tryz.underlying29 rfl fieldSize ?_));(with_reducible refine(t.out r (Nat.le_of_lt q) f.out).mono ?_);rintro e B ⟨rfl,hb2⟩;have l:=zH (f.out.trans (hb2.mono (Nat.le_of_lt q)));clear hb2 f g o x y;have z:∀(W:World)(a:Option Addr)(n c n' c':Nat),(binOp .eql 23 (zL a n c) (zL none n' c')).run Tryz.prog W=.ok (.bool a.isNone) W:=fun W a n c n' c'=>Lib.run_eql_slice_nil W 23 3 a n c n' c' Tryz.underlying23;go_wp2_with fail;go_ret2;exact⟨rfl,l.out⟩
structure FT (p m:Nat) (md l:List Nat):Prop where
 small:Small p m
 tab:Tab (p^m) (mulM p m md) l
def Quiet(v:Value)(w:World)(e:Ending)(w':World):Prop:=e=.returned v/\∃n,w'=w.drewN n
section
variable {w:World} {B gb p m:Nat} {l lg:List Nat}
theorem GFAt.cells(h:GFAt w B gb p m l lg):∃(_A3:Option Addr)(_n3 _c3 ge ce gl cl:Nat),
 w.cell? (zA gb 0)=some (Y p)/\w.cell? (zA gb 3)=some (Y ((p^m:Nat):Int))/\w.cell? (zA gb 4)=some (zS ge l.length ce)/\w.cell? (zA gb 5)=some (zS gl lg.length cl)/\
 (∀j,j<l.length->w.cell? (zA ge j)=some (Y ((l.getD j 0:Nat):Int)))/\(∀j,j<lg.length->w.cell? (zA gl j)=some (Y ((lg.getD j 0:Nat):Int))):=by
 obtain⟨r,f,q,g,ge,ce,gl,cl,c,i,n⟩:=h;refine⟨f,q,g,ge,ce,gl,cl,cell_of_row _ _ 0 _ _ _ c,cell_of_row _ _ 3 _ _ _ c,cell_of_row _ _ 4 _ _ _ c,cell_of_row _ _ 5 _ _ _ c,fun j hj=>?_,fun j hj=>?_⟩
 . obtain⟨b,o,e,_,d⟩:=i.at_ (k:=j) (by rw[qaA];exact hj);injection e with e;injection e with e1 e2;subst e1 e2;rw[<- qaC,<- d,Nat.zero_add]
 . obtain⟨b,o,e,_,d⟩:=n.at_ (k:=j) (by rw[qaA];exact hj);injection e with e;injection e with e1 e2;subst e1 e2;rw[<- qaC,<- d,Nat.zero_add]
end
theorem is_c(x:Int)(gb p m B:Nat)(l lg:List Nat)(w:World)(d:GFAt w B gb p m l lg):
 zC 196 (Db gb x) w fun e w'=>e=.returned (.bool (decide (0<=x) && decide (x<((p^m:Nat):Int))))/\w=w':=by
 obtain⟨_,_,_,_,_,_,_,_,c,_,_,_,_⟩:=d.cells;generalize p^m=q at *;by_cases b:0<=x
 . go_enter Tryz.func196,Tryz.ntmps196;go_wp2_with fail;go_ret;exact⟨qaN (by simp[b]),rfl⟩
 . go_enter Tryz.func196,Tryz.ntmps196;go_wp2_with fail;go_ret;exact⟨qaN (by rw[decide_eq_false U0];rfl),rfl⟩
theorem in_c(x gb p m B:Nat)(l lg:List Nat)(w:World)(c:GFAt w B gb p m l lg)(d:x<p^m):
 zC 158 (Db gb x) w fun e w'=>e=.returned (Y x)/\w=w':=by
 have b:Hid (zC 196 (Db gb x) w fun e w'=>e=.returned (.bool true)/\w=w'):=by have:=is_c x gb p m B l lg w c;rw[decide_eq_true (by omega:(0:Int)<=(x:Int)),decide_eq_true (by omega:(x:Int)<((p^m:Nat):Int))] at this;exact this
 clear c d;go_enter Tryz.func158,Tryz.ntmps158;go_wp2_with (go_at_call 196;refine b.out.mono ?_;rintro e w' ⟨rfl,rfl⟩);go_ret;exact⟨rfl,rfl⟩
theorem FT.log{p m:Nat}{md l:List Nat}(h:FT p m md l){x:Nat}(c:x<p^m)(b:x≠0):(logL l (p^m)).getD x 0<p^m-1:=
 (h.tab.log (qaV (by have:=h.small.p1;omega) h.small.m1 md) b c).1
theorem logL_len(l:List Nat)(q:Nat):(logL l q).length=q:=by unfold logL;rw[qcL,List.length_replicate]
theorem mul_c(x y gb p m B:Nat)(md l:List Nat)(w:World)(hF:FT p m md l)(hG:GFAt w B gb p m l (logL l (p ^ m)))(hx:x<p ^ m)(hy:y<p ^ m):
 zC 142 (Cn gb x y) w (Quiet (Y ((mulT l (logL l (p^m)) (p^m) x y:Nat):Int)) w):=by
 have n:=zH (in_c x gb p m B l _ w hG hx);have o:=zH (in_c y gb p m B l _ w hG hy);have aa:=hF.small.q;have s:=hF.tab.len;have f:=logL_len l (p^m);have i:Hid (x≠0->(logL l (p^m)).getD x 0<p^m-1):=fun h=>hF.log hx h;have k:Hid (y≠0->(logL l (p^m)).getD y 0<p^m-1):=fun h=>hF.log hy h;have Z:=(qaV (p:=p) (m:=m) (by have:=hF.small.p1;omega) hF.small.m1 md).q1;obtain⟨_,_,_,S,ce,gl,cl,_,L,E,H,M,I⟩:=hG.cells;rw[s] at E;rw[f] at H;have c:=zH (I x (by rw[f];exact hx));have d:=zH (I y (by rw[f];exact hy));have C:Hid (∀j,j<p^m-1->w.cell? (zA S j)=some (Y ((l.getD j 0:Nat):Int))):=fun j hj=>M j (by rw[s];exact hj);clear M I s f hF hG;generalize logL l (p^m)=t at *;generalize p^m=q at *;by_cases b:x=0
 . (have z:Hid (mulT l t q x y=0):=by show _=_;unfold mulT;rw[if_pos (.inl b)]);(have A:((x:Int)==0)=true:=by simp;exact b);clear b C i k c d L E H;go_enter Tryz.func142,Tryz.ntmps142;go_wp2_with (first|(go_at_call 158;(with_reducible refine n.out.mono ?_);rintro e w' ⟨rfl,rfl⟩)|(go_at_call 158;(with_reducible refine o.out.mono ?_);rintro e w' ⟨rfl,rfl⟩));go_ret;exact⟨qaG (by rw[z.out];rfl),0,rfl⟩
 . by_cases g : y = 0
   . (have z:Hid (mulT l t q x y=0):=by show _=_;unfold mulT;rw[if_pos (.inr g)]);(have A:((x:Int)==0)=false:=by simp;exact b);(have K:((y:Int)==0)=true:=by simp;exact g);clear g b C i k c d L E H;go_enter Tryz.func142,Tryz.ntmps142;go_wp2_with (first|(go_at_call 158;(with_reducible refine n.out.mono ?_);rintro e w' ⟨rfl,rfl⟩)|(go_at_call 158;(with_reducible refine o.out.mono ?_);rintro e w' ⟨rfl,rfl⟩));go_ret;exact⟨qaG (by rw[z.out];rfl),0,rfl⟩
   . (have z:Hid (mulT l t q x y=l.getD ((t.getD x 0+t.getD y 0) % (q-1)) 0):=by show _=_;unfold mulT;rw[if_neg];rintro(h|h)<;>contradiction);(have A:((x:Int)==0)=false:=by simp;exact b);(have K:((y:Int)==0)=false:=by simp;exact g);have W:=i.out b;have X:=k.out g;have U:=c.out;have V:=d.out;clear i k c d b g;generalize t.getD x 0=u at *;generalize t.getD y 0=v at *;have J:(u+v) % (q-1)<q-1:=Nat.mod_lt _ U0;have T:=C.out _ J;(have D:Hid (Int.tmod ((u:Int)+(v:Int)) ((q:Int)-1)=(((u+v) % (q-1):Nat):Int)):=by show _=_;rw[<- qaY,Int.natCast_add,Int.natCast_sub U0];rfl);clear C;generalize (u+v) % (q-1)=r at *;generalize l.getD r 0=res at *;have j1:(0:Int)<=(x:Int):=U0;have j2:(x:Int)<(q:Int):=U0;have j3:(0:Int)<=(y:Int):=U0;have j4:(y:Int)<(q:Int):=U0;have j5:(0:Int)<=(r:Int):=U0;have j6:(r:Int)<((q-1:Nat):Int):=U0;have j7:¬(q:Int)-1=0:=U0;have N:Hid (IntKind.i64.wrap ((u:Int)+(v:Int))=(u:Int)+(v:Int)):=IntWalk.i64_in _ U0;have O:Hid (IntKind.i64.wrap ((q:Int)-1)=(q:Int)-1):=IntWalk.i64_in _ U0;go_enter Tryz.func142,Tryz.ntmps142;go_upto_region 4 with(first|(go_at_call 158;(with_reducible refine n.out.mono ?_);rintro e w' ⟨rfl,rfl⟩)|(go_at_call 158;(with_reducible refine o.out.mono ?_);rintro e w' ⟨rfl,rfl⟩));have P:=N.out;have Q:=O.out;have R:=D.out;go_quiet (fail);clear P Q R;go_wp2_with fail;go_ret;exact⟨qaG (by rw[z.out]),nq,rfl⟩
theorem inv_c(x gb p m B:Nat)(md l:List Nat)(w:World)(hF:FT p m md l)(W:GFAt w B gb p m l (logL l (p^m)))(X:x<p^m)(V:x≠0):
 zC 101 (Db gb x) w (Quiet (.tuple #[Y ((invT l (logL l (p^m)) (p^m) x:Nat):Int),Y 0]) w):=by
 have f:=zH (in_c x gb p m B l _ w W X);have J:=hF.small.q;have c:=hF.tab.len;have b:=logL_len l (p^m);have H:(logL l (p^m)).getD x 0<p^m-1:=hF.log X V;have I:=(qaV (p:=p) (m:=m) (by have:=hF.small.p1;omega) hF.small.m1 md).q1;obtain⟨_,_,_,z,M,O,N,_,P,A,C,k,n⟩:=W.cells;rw[c] at A;rw[b] at C;have E:=n x (by rw[b];exact X);have i:Hid (∀j,j<p^m-1->w.cell? (zA z j)=some (Y ((l.getD j 0:Nat):Int))):=fun j hj=>k j (by rw[c];exact hj);have t:Hid (invT l (logL l (p^m)) (p^m) x=l.getD ((p^m-1-(logL l (p^m)).getD x 0) % (p^m-1)) 0):=rfl;clear k n c b hF W;generalize logL l (p^m)=L at *;generalize p^m=q at *;have K:((x:Int)==0)=false:=by simp;exact V
 clear V;generalize L.getD x 0=d at *;have h:(q-1-d) % (q-1)<q-1:=Nat.mod_lt _ U0;have D:=i.out _ h;have g:Hid (Int.tmod ((q:Int)-1-(d:Int)) ((q:Int)-1)=(((q-1-d) % (q-1):Nat):Int)):=by show _=_;rw[<- qaY,Int.natCast_sub U0,Int.natCast_sub U0];rfl
 clear i;generalize (q-1-d) % (q-1)=r at *;generalize l.getD r 0=res at *;have Q:(0:Int)<=(x:Int):=U0;have R:(x:Int)<(q:Int):=U0;have S:(0:Int)<=(r:Int):=U0;have T:(r:Int)<((q-1:Nat):Int):=U0;have U:¬(q:Int)-1=0:=U0;have o:Hid (IntKind.i64.wrap ((q:Int)-1-(d:Int))=(q:Int)-1-(d:Int)):=IntWalk.i64_in _ U0;have s:Hid (IntKind.i64.wrap ((q:Int)-1)=(q:Int)-1):=IntWalk.i64_in _ U0;go_enter Tryz.func101,Tryz.ntmps101;go_upto_region 4 with(go_at_call 158;(with_reducible refine f.out.mono ?_);rintro e w' ⟨rfl,rfl⟩);have u:=o.out;have v:=s.out;have y:=g.out;go_quiet (fail);clear u v y;go_wp2_with fail;go_ret2;exact⟨by show Ending.returned (.tuple #[Y (res:Int),Y 0])=_;rw[t.out],nq,rfl⟩
structure Mid (p m N k s pl:Nat) (rest:Nat):Prop where
 sum:s+pl*rest=N
 place:pl*p^k=p^m
theorem Mid.bounds{p m N k s pl rest:Nat}(h:Mid p m N k s pl rest)(f:N<p^m)(i:p^m<=256)(g:1<=p):s<=256/\pl<=256:=by have b:=h.sum;have c:=h.place;have d:pl<=pl*p^k:=Nat.le_mul_of_pos_right _ (Nat.pow_pos U0);omega
theorem Mid.step{p m N k s pl d rest:Nat}(h:Mid p m N (k+1) s pl (d+p*rest)):Mid p m N k (s+d*pl) (pl*p) rest:=by
 refine⟨?_,?_⟩
 . rw[<- h.sum,Nat.mul_add,Nat.mul_comm d pl,<- Nat.mul_assoc,Nat.add_assoc]
 . rw[<- h.place,Nat.pow_succ,Nat.mul_comm (p^k) p,Nat.mul_assoc]
theorem Mid.dpl{p m N k s pl d rest:Nat}(h:Mid p m N (k+1) s pl (d+p*rest))(i:N<p^m)(n:p^m<=256)(j:1<=p):(d:Int)*(pl:Int)<=256/\0<=(d:Int)*(pl:Int)/\(pl:Int)*(p:Int)<=256/\0<=(pl:Int)*(p:Int)/\(s:Int)+(d:Int)*(pl:Int)<=256:=by obtain⟨b,c⟩:=h.step.bounds i n j;have f:((d*pl:Nat):Int)=(d:Int)*(pl:Int):=Int.natCast_mul _ _;have g:((pl*p:Nat):Int)=(pl:Int)*(p:Int):=Int.natCast_mul _ _;omega
def RelNeg(w:World)(p m N g:Nat)(v1 v5 v6:Value)(wr:World):Prop:=
 ∃x s pl:Nat,v1=Y x/\v5=Y s/\v6=Y pl/\x<p^g/\Mid p m N g s pl (negD p g x)/\∃n,wr=w.drewN n
theorem neg_c(x gb p m B:Nat)(l lg:List Nat)(w:World)(hs:Small p m)(hG:GFAt w B gb p m l lg)(hx:x<p ^ m):
 zC 132 (Db gb x) w (Quiet (Y ((negD p m x:Nat):Int)) w):=by
 have j:=zH (in_c x gb p m B l _ w hG hx);obtain⟨T,U,Q,R,V⟩:=hs;obtain⟨_,_,_,_,_,_,_,u,_,_,_,_,_⟩:=hG.cells;have I:Hid (negD p m x<p^m):=qdP U0 m x;have o:Hid (Mid p m (negD p m x) m 0 1 (negD p m x)):=⟨U0,U0⟩;have E:=zH u;clear hG u;go_enter Tryz.func132,Tryz.ntmps132;go_wp2_with (go_at_call 158;(with_reducible refine j.out.mono ?_);rintro e w' ⟨rfl,rfl⟩);go_loopg [1,5,6] m (fun g v1 v5 v6 wr=>RelNeg w p m (negD p m x) g v1 v5 v6 wr);case atStart=>exact⟨x,0,1,rfl,rfl,rfl,hx,o.out,0,rfl⟩
 case round =>
  obtain⟨y,s,pl,rfl,rfl,rfl,z,f,n,rfl⟩:=hrel;have b:=zH f;have c0:w.cell? (zA gb 0)=some (Y p):=E.out;clear f;by_cases W:0<y
  . rcases gk with _ | k
    . simp at z;omega
    . have i : Hid (negD p (k + 1) y = (p - y % p) % p + p * negD p k (y / p)) := rfl;have c:=zH b.out;rw [i.out] at c;(have t:y / p<p ^ k:=by rw [Nat.div_lt_iff_lt_mul U0];rwa [Nat.pow_succ] at z);obtain ⟨b1,b2,b3,b4,b5⟩:=c.out.dpl I.out V U0;have q:=zH c.out.step;have X:y<=256:=by
       have h1:p ^ (k+1)<=p ^ m:=by
        have P:=c.out.place
        have h3:p ^ (k+1)<=pl*p ^ (k+1):=Nat.le_mul_of_pos_left _ (by
         rcases Nat.eq_zero_or_pos pl with h|h
         . rw[h,Nat.zero_mul] at P
           have:0<p^m:=Nat.pow_pos U0
           omega
         . exact h)
        omega
       omega
      have Z:y % p<p:=Nat.mod_lt _ U0;have J:Hid (Int.tmod (y:Int) (p:Int)=((y % p:Nat):Int)):=qaY y p;have L:Hid (((y / p:Nat):Int)=(y:Int) / (p:Int)):=rfl;clear b c i;generalize y % p=r at *;(have K:Hid (Int.tmod ((p:Int)-(r:Int)) (p:Int)=(((p-r) % p:Nat):Int)):=by show _=_;rw[<- qaY,Int.natCast_sub U0]);generalize (p-r) % p=d at *;have S:¬(p:Int)=0:=U0;have v:¬p=0:=U0;have A:Hid (IntKind.i64.wrap ((p:Int)-(r:Int))=(p:Int)-(r:Int)):=IntWalk.i64_in _ U0;have C:Hid (IntKind.i64.wrap ((d:Int)*(pl:Int))=(d:Int)*(pl:Int)):=IntWalk.i64_in _ U0;have D:Hid (IntKind.i64.wrap ((s:Int)+(d:Int)*(pl:Int))=(s:Int)+(d:Int)*(pl:Int)):=IntWalk.i64_in _ U0;go_upto_region 4 with fail;have t1:=J.out;have t2:=K.out;have M:=A.out;have N:=C.out;have O:=D.out;go_quiet (fail);clear t1 t2 M N O;have q0:0<=(y:Int) / (p:Int):=Int.ediv_nonneg U0 U0;have q1:(y:Int) / (p:Int)<=(y:Int):=Int.ediv_le_self _ U0;go_wp2_with fail;go_roundg k;case measure=>omega
      case rel=>exact⟨y / p,s+d*pl,pl*p,by rw[L.out],by rw[Int.natCast_add,Int.natCast_mul],by rw[Int.natCast_mul],t,q.out,n+nq,rfl⟩
  . (obtain rfl:y=0:=by omega);(have H:Hid (s=negD p m x):=by show _=_;have:=b.out.sum;rw[negD_zero] at this;omega);go_wp2_with fail;go_ret;exact⟨qaG (by rw[H.out]),n,rfl⟩
theorem bits_xor(x y:Nat)(f:x<=256)(g:y<=256):bits .xor .i64 (x:Int) (y:Int)=((x ^^^ y:Nat):Int):=by
 have d:x ^^^ y<2^9:=Nat.xor_lt_two_pow U0 U0;have b:BitVec.ofInt 64 (x:Int)=BitVec.ofNat 64 x:=BitVec.ofInt_natCast _ _;have c:BitVec.ofInt 64 (y:Int)=BitVec.ofNat 64 y:=BitVec.ofInt_natCast _ _;have e:(BitVec.ofInt 64 (x:Int) ^^^ BitVec.ofInt 64 (y:Int)).toNat=x ^^^ y:=by rw[b,c,BitVec.toNat_xor,BitVec.toNat_ofNat,BitVec.toNat_ofNat,Nat.mod_eq_of_lt U0,Nat.mod_eq_of_lt U0]
 show IntKind.i64.wrap (((BitVec.ofInt 64 (x:Int) ^^^ BitVec.ofInt 64 (y:Int)).toNat:Nat):Int)=_;rw[e];exact IntWalk.i64_in _ U0
def RelAdd(w:World)(p m N g:Nat)(v1 v2 v7 v8:Value)(wr:World):Prop:=
 ∃x y s pl:Nat,v1=Y x/\v2=Y y/\v7=Y s/\v8=Y pl/\x<p^g/\y<p^g/\Mid p m N g s pl (addD p g x y)/\∃n,wr=w.drewN n
theorem pow_le_of_mid{p m N k s pl rest:Nat}(h:Mid p m N k s pl rest)(d:1<=p):p ^ k<=p ^ m:=by
 have b:=h.place
 have c:p ^ k<=pl*p ^ k:=Nat.le_mul_of_pos_left _ (by
  rcases Nat.eq_zero_or_pos pl with h|h
  . rw[h,Nat.zero_mul] at b
    have:0<p^m:=Nat.pow_pos U0
    omega
  . exact h)
 omega
theorem add_2(x y gb m B:Nat)(l lg:List Nat)(w:World)(t:Small 2 m)(q:GFAt w B gb 2 m l lg)(r:x<2^m)(s:y<2^m):
 zC 143 (Cn gb x y) w (Quiet (Y ((addD 2 m x y:Nat):Int)) w):=by have b:=zH (in_c x gb 2 m B l _ w q r);have c:=zH (in_c y gb 2 m B l _ w q s);obtain⟨j,k,h,i,o⟩:=t;obtain⟨_,_,_,_,_,_,_,n,_,_,_,_,_⟩:=q.cells;have g:=zH (xor_addD m x y r s);have d:x<=256:=U0;have f:y<=256:=U0;clear q;go_enter Tryz.func143,Tryz.ntmps143;go_wp2_with (first|(go_at_call 158;(with_reducible refine b.out.mono ?_);rintro e w' ⟨rfl,rfl⟩)|(go_at_call 158;(with_reducible refine c.out.mono ?_);rintro e w' ⟨rfl,rfl⟩));go_ret;exact⟨qaG (by rw[bits_xor x y d f,g.out]),0,rfl⟩
theorem add_n(x y gb p m B:Nat)(l lg:List Nat)(w:World)(hs:Small p m)(an:p≠2)(hG:GFAt w B gb p m l lg)(hx:x<p ^ m)(hy:y<p ^ m):
 zC 143 (Cn gb x y) w (Quiet (Y ((addD p m x y:Nat):Int)) w):=by
 have u:=zH (in_c x gb p m B l _ w hG hx);have v:=zH (in_c y gb p m B l _ w hG hy);obtain⟨aj,ak,ag,ah,hq⟩:=hs;obtain⟨_,_,_,_,_,_,_,S,_,_,_,_,_⟩:=hG.cells;have Z:Hid (addD p m x y<p^m):=qdR U0 m x y;have z:Hid (Mid p m (addD p m x y) m 0 1 (addD p m x y)):=⟨U0,U0⟩;have E:((p:Int)==2)=false:=so;have W:=zH S;clear hG an;go_enter Tryz.func143,Tryz.ntmps143;go_wp2_with (first|(go_at_call 158;(with_reducible refine u.out.mono ?_);rintro e w' ⟨rfl,rfl⟩)|(go_at_call 158;(with_reducible refine v.out.mono ?_);rintro e w' ⟨rfl,rfl⟩));clear S E;go_loopg [1,2,7,8] m (fun g v1 v2 v7 v8 wr=>RelAdd w p m (addD p m x y) g v1 v2 v7 v8 wr);case atStart=>exact⟨x,y,0,1,rfl,rfl,rfl,rfl,hx,hy,z.out,0,rfl⟩
 case round =>
  obtain⟨a,b,s,pl,rfl,rfl,rfl,rfl,T,U,f,n,rfl⟩:=hrel;have c:=zH f;have c0:w.cell? (zA gb 0)=some (Y p):=W.out;have al:=pow_le_of_mid f (by omega:1<=p);have ab:a<=256:=U0;have ae:b<=256:=U0;clear f;by_cases hz:a=0/\b=0
  . obtain⟨rfl,rfl⟩:=hz;(have X:Hid (s=addD p m x y):=by show _=_;have:=c.out.sum;rw[addD_zero] at this;omega);go_wp2_with fail;go_ret;exact⟨qaG (by rw[X.out]),n,rfl⟩
  . rcases gk with _ | k
    . simp at T U;omega
    . have i : Hid (addD p (k + 1) a b = (a % p + b % p) % p + p * addD p k (a / p) (b / p)) := rfl;have h:=zH c.out;rw [i.out] at h;(have o:a / p<p ^ k:=by rw [Nat.div_lt_iff_lt_mul U0];rwa [Nat.pow_succ] at T);(have q:b / p<p ^ k:=by rw [Nat.div_lt_iff_lt_mul U0];rwa [Nat.pow_succ] at U);obtain ⟨b1,b2,b3,b4,b5⟩:=h.out.dpl Z.out hq U0;have j:=zH h.out.step;have ac:a % p<p:=Nat.mod_lt _ U0;have af:b % p<p:=Nat.mod_lt _ U0;have N:Hid (Int.tmod (a:Int) (p:Int)=((a % p:Nat):Int)):=qaY a p;have O:Hid (Int.tmod (b:Int) (p:Int)=((b % p:Nat):Int)):=qaY b p;have Q:Hid (((a / p:Nat):Int)=(a:Int) / (p:Int)):=rfl;have R:Hid (((b / p:Nat):Int)=(b:Int) / (p:Int)):=rfl;clear c h i;generalize a % p=r at *;generalize b % p=t at *;(have P:Hid (Int.tmod ((r:Int)+(t:Int)) (p:Int)=(((r+t) % p:Nat):Int)):=by show _=_;rw [<- qaY,Int.natCast_add]);generalize (r+t) % p=d at *;have ai:¬ (p:Int)=0:=U0;have V:¬ p=0:=U0;have K:Hid (IntKind.i64.wrap ((r:Int)+(t:Int))=(r:Int)+(t:Int)):=IntWalk.i64_in _ U0;have L:Hid (IntKind.i64.wrap ((d:Int)*(pl:Int))=(d:Int)*(pl:Int)):=IntWalk.i64_in _ U0;have M:Hid (IntKind.i64.wrap ((s:Int)+(d:Int)*(pl:Int))=(s:Int)+(d:Int)*(pl:Int)):=IntWalk.i64_in _ U0;have q0:0<=(a:Int) / (p:Int):=Int.ediv_nonneg U0 U0;have q1:(a:Int) / (p:Int)<=(a:Int):=Int.ediv_le_self _ U0;have q2:0<=(b:Int) / (p:Int):=Int.ediv_nonneg U0 U0;have q3:(b:Int) / (p:Int)<=(b:Int):=Int.ediv_le_self _ U0;by_cases aa:0<a
      . go_upto_region 6 with fail;have H:=N.out;have I:=O.out;have J:=P.out;have A:=K.out;have C:=L.out;have D:=M.out;go_quiet (fail);clear H I J A C D;go_wp2_with fail;go_roundg k;case measure=>omega
        case rel=>exact⟨a / p,b / p,s+d*pl,pl*p,by rw[Q.out],by rw[R.out],by rw[Int.natCast_add,Int.natCast_mul],by rw[Int.natCast_mul],o,q,j.out,n+nq,rfl⟩
      . (have ad : 0 < b:=by omega);go_upto_region 6 with fail;have H:=N.out;have I:=O.out;have J:=P.out;have A:=K.out;have C:=L.out;have D:=M.out;go_quiet (fail);clear H I J A C D;go_wp2_with fail;go_roundg k;case measure=>omega
        case rel=>exact⟨a / p,b / p,s+d*pl,pl*p,by rw[Q.out],by rw[R.out],by rw[Int.natCast_add,Int.natCast_mul],by rw[Int.natCast_mul],o,q,j.out,n+nq,rfl⟩
theorem add_c(x y gb p m B:Nat)(l lg:List Nat)(w:World)(c:Small p m)(b:GFAt w B gb p m l lg)(d:x<p^m)(f:y<p^m):
 zC 143 (Cn gb x y) w (Quiet (Y ((addD p m x y:Nat):Int)) w):=by
 by_cases h:p=2
 . subst h;exact add_2 x y gb m B l lg w c b d f
 . exact add_n x y gb p m B l lg w c h b d f
def opsT(p m:Nat)(l:List Nat):Ops:=⟨addD p m,mulT l (logL l (p^m)) (p^m),negD p m,invT l (logL l (p^m)) (p^m)⟩
theorem mulT_lt{p m:Nat}{md l:List Nat}(h:FT p m md l){x y:Nat}(b:x<p^m)(c:y<p^m):mulT l (logL l (p^m)) (p^m) x y<p^m:=by have H:=qaV (p:=p) (m:=m) (by have:=h.small.p1;omega) h.small.m1 md;rw[h.tab.mul_eq H b c];exact H.lt x y
def scK(f:Nat->Nat)(v:List Nat)(k:Nat):List Nat:=(v.take k).map f++List.replicate (v.length-k) 0
theorem scK_len(f:Nat->Nat)(v:List Nat)(k:Nat)(b:k<=v.length):(scK f v k).length=v.length:=by simp[scK];omega
theorem scK_set(f:Nat->Nat)(v:List Nat)(k:Nat)(c:k<v.length):(scK f v k).set k (f (v.getD k 0))=scK f v (k+1):=by unfold scK;have b:((v.take k).map f).length=k:=so;rw[List.set_append_right _ _ U0,b,Nat.sub_self,show v.length-k=(v.length-(k+1))+1 by omega,List.replicate_succ,List.set_cons_zero,List.take_succ_eq_append_getElem c,List.map_append,List.append_assoc];simp[List.getD,c]
def RelSc(w:World)(f:Nat->Nat)(v:List Nat)(v15:Value)(wr:World):Prop:=
 ∃k:Nat,k<=v.length/\v15=Y k/\Row wr w.heap.size w.heap.size v.length (nz (scK f v k))/\Below w.heap.size w wr
theorem scale_c(a Z p m:Nat)(md l v:List Nat)(A:Option Addr)(c:Nat)(w:World)(hF:FT p m md l)(hG:GFAt w w.heap.size Z p m l (logL l (p ^ m)))(ha:a<p ^ m)(hv:∀ x∈v,x<p ^ m)(hA:IntsAt w w.heap.size A (nz v))(hl:v.length<=1000):
 zC 75 #[zP Z,Y a,zL A v.length c] w fun e w'=>e=.returned (zS w.heap.size v.length v.length)/\Row w' w.heap.size w.heap.size v.length (nz (scaleRow (opsT p m l) a v))/\Below w.heap.size w w':=by
 obtain⟨N,M,r,s,t⟩:=qaF infoInt;have Q:=zH M;have I:=zH r;have J:=zH s;have C:=zH (show N.bytes*v.length<=281474976710656 by rw[t];omega);have D:=zH (show v.length<=maxLen by unfold maxLen;omega);have O:=zH hA
 have P:Hid (∀x W,x<p^m->Below w.heap.size w W->zC 142 (Cn Z a x) W (Quiet (Y ((mulT l (logL l (p^m)) (p^m) a x:Nat):Int)) W)):=
  fun x W hx z=>mul_c a x Z p m w.heap.size md l W hF (hG.keep z) ha hx
 have R:Hid (∀k,k<v.length->v.getD k 0<p^m):=fun k B=>by
  have:v.getD k 0=v[k]:=by simp[List.getD,B]
  rw[this];exact hv _ (List.getElem_mem B)
 have E:Hid (scaleRow (opsT p m l) a v=v.map (mulT l (logL l (p^m)) (p^m) a)):=rfl;clear M r s t hA hF hG hv;generalize mulT l (logL l (p^m)) (p^m) a=f at *;generalize p^m=q at *;go_enter Tryz.func75,Tryz.ntmps75;go_wp2_with (refine wpList_make_full w rfl (.tmp 11) (.tmp 11) 23 rfl w.heap.size 3 N (Y 0) 1 Tryz.underlying23 Q.out I.out J.out .i64 .i64 v.length v.length v.length rfl rfl rfl rfl C.out D.out (Nat.le_refl _) ?_;intro U g i);have L:Hid (RelSc w f v (zN 0) U):=⟨0,U0,rfl,by have:=Row.of_make g;exact this,qaL i⟩;clear g i;go_loopw [15] (fun v15 wr=>RelSc w f v v15 wr) (fun v15 _=>v.length-(intOf v15).toNat);case atStart=>exact L.out
 case round =>
  obtain⟨k,B,rfl,h,z⟩:=hrel;have y:=zH h;have u:=zH z;clear h z L;by_cases d:k<v.length
  . obtain⟨b,o,rfl,S,T⟩:=(O.out.keep u.out).at_ (k:=k) (by rw[qaA];exact d);rw[qaC] at T;have K:=R.out k d;have H:=zH (scK_set f v k d);have V:=y.out.frozen k;have c0:=y.out.cell (j:=k) (by rw[qaA,scK_len f v k B];exact d);generalize v.getD k 0=x at *;go_wp2_with fail;(with_reducible refine(P.out x wr K u.out).mono ?_);rintro e X ⟨rfl,n,rfl⟩;go_wp2_with fail;go_roundw;case rel=>refine⟨k+1,U0,gn,?_,(qaB u.out n).setCell (p:=(zA w.heap.size k)) (Nat.le_refl _) _⟩;rw[<- H.out,<- qbC];exact Row.set (w:=wr.drewN n) y.out k _
    case measure=>exact mE
  . (obtain rfl:k=v.length:=by omega);go_wp2_with fail;go_ret;refine⟨rfl,?_,u.out⟩;have:=y.out;unfold scK at this;rw[Nat.sub_self,List.replicate_zero,List.append_nil,List.take_length] at this;rw[E.out];exact this
theorem sclone_c(zs:List Int)(A:Option Addr)(c:Nat)(w:World)(M:IntsAt w w.heap.size A zs)(N:0<zs.length)(O:zs.length<=1000000):
 zC 74 #[zL A zs.length c] w fun e w'=>(∃g c',e=.returned (zS g zs.length c')/\Row w' w.heap.size g c' zs)/\Below w.heap.size w w':=by
 obtain⟨L,C,l,m,p⟩:=qaF infoInt;obtain⟨b,o,rfl,I,J⟩:=M N;have E:=zH C;have r:=zH l;have s:=zH m;have t:=zH p;have q:Hid ((w.alloc (.cells #[] 3)).ownsRow w.heap.size 3 1 (zS w.heap.size 0 0) 0 []):=World.ownsRow_made w #[] 0 (Nat.le_refl _) U3 rfl;have f:Hid (∀(j:Nat)(u:Value),(zs.map (Value.int .i64))[j]?=some u->(w.alloc (.cells #[] 3)).cell? ((⟨b,o,none⟩:Addr).add j)=some u):=(M.keep ((Below.refl _ _).alloc (Nat.le_refl _) _)).news;clear C l m p M J;have x:∀(W:World)(a:Option Addr)(n c n' c':Nat),(binOp .eql 23 (zL a n c) (zL none n' c')).run Tryz.prog W=.ok (.bool a.isNone) W:=fun W a n c n' c'=>Lib.run_eql_slice_nil W 23 3 a n c n' c' Tryz.underlying23;go_enter Tryz.func74,Tryz.ntmps74;go_wp2_with (at_builtin;refine wpList_append_lies _ rfl (.tmp 5) (.tmp 6) 23 rfl w.heap.size 3 L _ 1 8 Tryz.underlying23 E.out r.out s.out t.out rfl dc (zS w.heap.size 0 0) 0 [] rfl q.out (zA b o) zs.length c (zs.map (Value.int .i64)) rfl ?c0 f.out ?c2 N ?c3 ?c4 ?c5 _ rfl ?_);case c0=>simp
 case c2=>intro u K;obtain⟨z,_,rfl⟩:=List.mem_map.1 K;rfl
 case c3=>unfold maxLen;omega
 case c4=>omega
 case c5=>simp
 intro g h B d i v y;have H:Hid (Row B w.heap.size g h zs):=by show B.ownsRow _ _ _ _ _ _;exact d
 have D:Hid (Below w.heap.size w B):=((Below.refl _ _).alloc (Nat.le_refl _) _).grown i U2 (fun k hk=>by simp[Value.ownBlock] at hk;omega);clear d i v y x;go_wp2_with fail;go_ret;exact⟨⟨g,h,rfl,H.out⟩,D.out⟩
def adK(O:Ops)(v:List Nat)(a:Nat)(u:List Nat)(k:Nat):List Nat:=addRow O (v.take k) a (u.take k)++v.drop k
theorem qbU(O:Ops)(v:List Nat)(a:Nat)(u:List Nat)(h:v.length=u.length):(addRow O v a u).length=v.length:=by unfold addRow;rw[List.length_zipWith,h,Nat.min_self]
theorem adK_len(O:Ops)(v:List Nat)(a:Nat)(u:List Nat)(k:Nat)(h:v.length=u.length)(b:k<=v.length):(adK O v a u k).length=v.length:=by unfold adK;rw[List.length_append,qbU _ _ _ _ (by rw[List.length_take,List.length_take,h]),List.length_take,List.length_drop];omega
theorem adK_at(O:Ops)(v:List Nat)(a:Nat)(u:List Nat)(k:Nat)(h:v.length=u.length)(c:k<v.length):(adK O v a u k).getD k 0=v.getD k 0:=by
 unfold adK;have b:(addRow O (v.take k) a (u.take k)).length=k:=by rw[qbU _ _ _ _ (by rw[List.length_take,List.length_take,h]),List.length_take];omega
 simp only[List.getD];rw[List.getElem?_append_right U0,b,Nat.sub_self,List.getElem?_drop,Nat.add_zero]
theorem adK_set(O:Ops)(v:List Nat)(a:Nat)(u:List Nat)(k:Nat)(h:v.length=u.length)(f:k<v.length):
 (adK O v a u k).set k (if u.getD k 0=0 then v.getD k 0 else O.add (v.getD k 0) (O.mul a (u.getD k 0)))=adK O v a u (k+1):=by
 unfold adK;have d:(addRow O (v.take k) a (u.take k)).length=k:=by rw[qbU _ _ _ _ (by rw[List.length_take,List.length_take,h]),List.length_take];omega
 rw[List.set_append_right _ _ U0,d,Nat.sub_self,List.drop_eq_getElem_cons f,List.set_cons_zero];rw[List.take_succ_eq_append_getElem f,List.take_succ_eq_append_getElem (l:=u) U0];unfold addRow;rw[List.zipWith_append (by rw[List.length_take,List.length_take,h])];have b:v.getD k 0=v[k]:=by simp[List.getD,f]
 have c:u.getD k 0=u[k]:=by simp[List.getD,show k<u.length by omega]
 rw[b,c];simp
theorem adK_skip(O:Ops)(v:List Nat)(a:Nat)(u:List Nat)(k:Nat)(h:v.length=u.length)(f:k<v.length)(g:u.getD k 0=0):adK O v a u (k+1)=adK O v a u k:=by
 rw[<- adK_set O v a u k h f,if_pos g,<- adK_at O v a u k h f];apply List.ext_getElem
 . simp
 . intro i d c;rw[List.getElem_set];split
   . rename_i hik;subst hik;have b:k<(adK O v a u k).length:=c;simp[List.getD,b]
   . rfl
theorem adK_end(O:Ops)(v:List Nat)(a:Nat)(u:List Nat)(h:v.length=u.length):adK O v a u v.length=addRow O v a u:=by unfold adK;rw[List.take_length,List.drop_length,List.append_nil,List.take_of_length_le U0]
def SDrew(wr W:World):Prop:=∃n,W=wr.drewN n
def RelAd(w:World)(B gv cv:Nat)(O:Ops)(v:List Nat)(a:Nat)(u:List Nat)(v12:Value)(wr:World):Prop:=
 ∃k:Nat,k<=v.length/\v12=Y k/\Row wr B gv cv (nz (adK O v a u k))/\w.grownBy wr (some gv)
theorem grown_trans{w w1 w2:World}{g:Nat}(h:w.grownBy w1 (some g))(b:w1.grownBy w2 (some g)):w.grownBy w2 (some g):=
 ⟨b.os.trans h.os,b.tape.trans h.tape,b.output.trans h.output,Nat.le_trans h.size b.size,fun k hk hne=>(b.block k (Nat.lt_of_lt_of_le hk h.size) hne).trans (h.block k hk hne)⟩
theorem grown_drewN(w:World)(n:Nat)(row:Option Nat):w.grownBy (w.drewN n) row:=⟨rfl,rfl,rfl,Nat.le_refl _,fun _ _ _=>rfl⟩
theorem grown_set(w:World)(p:Addr)(u:Value):w.grownBy (w.setCell p u) (some p.block):=⟨rfl,rfl,rfl,U2,fun k _ hne=>Below.heap_setCell w p u k (fun e=>hne (by rw[e]))⟩
theorem qbB{w w':World}{g:Nat}(h:w.grownBy w' (some g))(b:g<=w.heap.size):Below g w w':=⟨h.os,h.tape,h.output,h.size,fun k hk=>h.block k U0 (fun e=>by injection e with e;omega)⟩
theorem madd_c(a gb p m Bg B gv cv gu cu:Nat)(md l v u:List Nat)(w:World)(hF:FT p m md l)(hG:GFAt w Bg gb p m l (logL l (p ^ m)))(ac:Bg<=gv)(ha:a<p ^ m)(hv:∀ x∈v,x<p ^ m)(hu:∀ x∈u,x<p ^ m)(ab:Row w B gv cv (nz v))(ad:Row w B gu cu (nz u))(ae:gu≠gv)(aa:v.length=u.length)(hl:v.length<=1000):
 zC 233 #[zP gb,zS gv v.length cv,Y a,zS gu v.length cu] w fun e w'=>e=.returned (.tuple #[])/\Row w' B gv cv (nz (addRow (opsT p m l) v a u))/\w.grownBy w' (some gv):=by
 have h:=ab.lt.2
 have P:Hid (∀x W,x<p^m->w.grownBy W (some gv)->zC 142 (Cn gb a x) W (Quiet (Y (((opsT p m l).mul a x:Nat):Int)) W)):=
  fun x W hx hb=>mul_c a x gb p m Bg md l W hF (hG.keep ((qbB hb (Nat.le_of_lt h)).mono ac)) ha hx
 have Q:Hid (∀x y W,x<p^m->y<p^m->w.grownBy W (some gv)->zC 143 (Cn gb x y) W (Quiet (Y (((opsT p m l).add x y:Nat):Int)) W)):=
  fun x y W hx hy hb=>add_c x y gb p m Bg l _ W hF.small (hG.keep ((qbB hb (Nat.le_of_lt h)).mono ac)) hx hy
 have H:Hid (∀x,x<p^m->(opsT p m l).mul a x<p^m):=fun x hx=>mulT_lt hF ha hx;have U:Hid (∀k,k<v.length->v.getD k 0<p^m):=fun k A=>by
  have:v.getD k 0=v[k]:=by simp[List.getD,A]
  rw[this];exact hv _ (List.getElem_mem A)
 have T:Hid (∀k,k<v.length->u.getD k 0<p^m):=fun k A=>by
  have C:k<u.length:=U0;have:u.getD k 0=u[k]:=by simp[List.getD,C]
  rw[this];exact hu _ (List.getElem_mem C)
 have J:=zH ad;have N:Hid (RelAd w B gv cv (opsT p m l) v a u (Y ((0:Nat):Int)) w):=⟨0,U0,rfl,by simpa[adK,addRow] using ab,World.grownBy.refl _ _⟩;have b:=zH aa;clear hF hG hv hu ab ad aa;generalize opsT p m l=O at *;generalize p^m=q at *;go_enter Tryz.func233,Tryz.ntmps233;go_wp2_with fail;go_loopw [12] (fun v12 wr=>RelAd w B gv cv O v a u v12 wr) (fun v12 _=>v.length-(intOf v12).toNat);case atStart=>exact N.out
 case round =>
  obtain⟨k,A,rfl,i,t⟩:=hrel;have o:=zH i;have j:=zH t;clear i t N;by_cases d:k<v.length
  . have g := zH (J.out.grown j.out (by simp;exact ae));(have X:wr.cell? (zA gu k)=some (Y ((u.getD k 0:Nat):Int)):=by rw [<- qaC];exact g.out.cell (by rw [qaA,<- b.out];exact d));(have y1:wr.cell? (zA gv k)=some (Y ((v.getD k 0:Nat):Int)):=by rw [<- adK_at O v a u k b.out d,<- qaC];exact o.out.cell (by rw [qaA,adK_len O v a u k b.out A];exact d));have Z:=o.out.frozen k;have f:=zH (adK_set O v a u k b.out d);have c:=zH (adK_skip O v a u k b.out d);have D:=T.out k d;have L:=U.out k d;have k0:(0:Int)<=(k:Int):=U0;have k1:(k:Int)<(v.length:Int):=U0;clear g;by_cases r:u.getD k 0=0
    . have R:=zH (c.out r);rw[r] at X;clear f c r;go_wp2_with fail;go_roundw;case rel=>exact⟨k+1,U0,gn,by rw[R.out];exact o.out,j.out⟩
      case measure=>exact mE
    . rw [if_neg r] at f;clear c;generalize u.getD k 0=x at *;generalize v.getD k 0=y at *;(have V:((x:Int) != 0)=true:=by simpa using r);have M:¬ (x:Int)=0:=U0;(have S:Hid (∀ W,SDrew wr W->zC 142 (Cn gb a x) W fun e w'=>e=.returned (Y ((O.mul a x:Nat):Int))/\SDrew wr w'):=fun W ⟨n,hW⟩=>by subst hW;refine (P.out x _ D (grown_trans j.out (grown_drewN wr n _))).mono ?_;rintro e w' ⟨he,k,rfl⟩;exact ⟨he,n+k,U9⟩);have I:=H.out x D;(have E:Hid (∀ W,SDrew wr W->zC 143 (Cn gb y ((O.mul a x:Nat):Int)) W fun e w'=>e=.returned (Y ((O.add y (O.mul a x):Nat):Int))/\SDrew wr w'):=fun W ⟨n,hW⟩=>by subst hW;refine (Q.out y _ _ L I (grown_trans j.out (grown_drewN wr n _))).mono ?_;rintro e w' ⟨he,k,rfl⟩;exact ⟨he,n+k,U9⟩);clear M;go_upto_region 4 with fail;refine qaI 13 (SDrew wr) U1 U1 ⟨1,rfl⟩ ?_;simp only [List.take_succ_cons,List.take_zero,List.drop_succ_cons,List.drop_zero]
      repeat (first
       | (apply qaJ rfl
          . intro W s
            obtain⟨n,rfl⟩:=s
            go_simp
            rfl
          go_simp)
       | (apply qaO rfl
          . intro W s
            go_simp
            exact⟨rfl,rfl⟩
          . intro W s
            first
             |exact S.out W s
             |exact E.out W s
          go_simp))
      refine qaE ?_;intro w2 K;obtain⟨n,rfl⟩:=K;generalize O.add y (O.mul a x)=z at *;go_wp2_with fail;go_roundw;case rel=>refine⟨k+1,U0,gn,?_,grown_trans (grown_trans j.out (grown_drewN wr n _)) (grown_set _ (zA gv k) _)⟩;rw[<- f.out,<- qbC];exact Row.set (w:=wr.drewN n) o.out k _
      case measure=>exact mE
  . (obtain rfl:k=v.length:=by omega);go_wp2_with fail;go_end0;refine⟨rfl,?_,j.out⟩;rw[<- adK_end O v a u b.out];exact o.out
theorem infoInts:(Tryz.prog.info? 23).map (fun i=>(i.zero,i.size,i.bytes))=some (some (zL none 0 0),1,24):=U1
def bk(bs:List (Nat × Nat))(i:Nat):Nat:=(bs.getD i (0,0)).1
def cp(bs:List (Nat × Nat))(i:Nat):Nat:=(bs.getD i (0,0)).2
def hdr(rows:List (List Nat))(bs:List (Nat × Nat))(i:Nat):Value:=zS (bk bs i) (rows.getD i []).length (cp bs i)
def hdrs(rows:List (List Nat))(bs:List (Nat × Nat)):List Value:=(List.range rows.length).map (hdr rows bs)
structure GridAt (w:World) (B R cR:Nat) (rows:List (List Nat)) (bs:List (Nat × Nat)):Prop where
 len:bs.length=rows.length
 out:w.ownsRow B 23 1 (zS R rows.length cR) rows.length (hdrs rows bs)
 row:∀i,i<rows.length->Row w B (bk bs i) (cp bs i) (nz (rows.getD i []))
 nd:∀i j,i<rows.length->j<rows.length->i≠j->bk bs i≠bk bs j
section
variable {w w':World} {B R cR:Nat} {rows:List (List Nat)} {bs:List (Nat × Nat)}
theorem GridAt.cell(h:GridAt w B R cR rows bs){i:Nat}(b:i<rows.length):w.cell? (zA R i)=some (zS (bk bs i) (rows.getD i []).length (cp bs i)):=by rw[World.ownsRow.cellAt h.out i U0];simp[hdrs,b,hdr]
theorem GridAt.frozen(h:GridAt w B R cR rows bs)(i:Nat):w.frozen? (zA R i)=false:=World.ownsRow.frozenAt h.out i
theorem GridAt.lt(h:GridAt w B R cR rows bs):B<=R/\R<w.heap.size:=World.ownsRow.lt h.out R rfl
theorem qdE{e:TypeId}{n c:Nat}{xs:List Value}(h:w.ownsRow B e 1 (zS R n c) n xs):∃cur,w.heap[R]?=some (.cells cur e (0,0)):=by
 rcases h.2 with⟨f,_⟩|⟨g,d,cur,b,_,i,_⟩
 . cases f
 . simp only[Value.slice.injEq,Option.some.injEq,Addr.mk.injEq,and_true,true_and] at b;obtain⟨rfl,_⟩:=b;exact⟨cur,i⟩
theorem own_below{e:TypeId}{n c:Nat}{xs:List Value}(h:w.ownsRow B e 1 (zS R n c) n xs)(k:w'.heap[R]?=w.heap[R]?):w'.ownsRow B e 1 (zS R n c) n xs:=by
 refine⟨h.1,?_⟩;rcases h.2 with⟨i,_⟩|⟨g,b,cur,d,j,f,r⟩
 . cases i
 . (have:g=R:=by simp only[Value.slice.injEq,Option.some.injEq,Addr.mk.injEq,and_true,true_and] at d;exact d.1.symm);exact .inr ⟨g,b,cur,d,j,by rw[this] at f ⊢;exact k.trans f,r⟩
theorem GridAt.ne(h:GridAt w B R cR rows bs){B' g c:Nat}{zs:List Int}(f:Row w B' g c zs):g≠R:=by rintro rfl;obtain⟨c1,d⟩:=qdE h.out;obtain⟨c2,b⟩:=qdE (e:=3) f;rw[d] at b;injection b with b;injection b with _ ht;exact absurd ht dc
theorem GridAt.of_blocks(h:GridAt w B R cR rows bs)(c:∀k,B<=k->k<w.heap.size->w'.heap[k]?=w.heap[k]?):GridAt w' B R cR rows bs:=by refine⟨h.len,own_below h.out (c R h.lt.1 h.lt.2),fun i hi=>?_,h.nd⟩;have b:=h.row i hi;exact own_below b (c _ b.lt.1 b.lt.2)
theorem GridAt.grow(h:GridAt w B R cR rows bs)(b:Below w.heap.size w w'):GridAt w' B R cR rows bs:=h.of_blocks fun k _ hk=>b.block k hk
theorem GridAt.drewN(h:GridAt w B R cR rows bs)(n:Nat):GridAt (w.drewN n) B R cR rows bs:=h.of_blocks fun _ _ _=>rfl
theorem GridAt.else_(h:GridAt w B R cR rows bs){p:Addr}(b:R≠p.block)(c:∀i,i<rows.length->bk bs i≠p.block)(u:Value):GridAt (w.setCell p u) B R cR rows bs:=by refine⟨h.len,own_below h.out (Below.heap_setCell w p u R b),fun i hi=>(h.row i hi).far (c i hi) u,h.nd⟩
theorem getD_set{α:Type}(l:List α)(i j:Nat)(x d:α)(b:i<l.length):(l.set i x).getD j d=if j=i then x else l.getD j d:=by
 by_cases h:j=i
 . subst h;simp[List.getD,b]
 . rw[if_neg h];simp only[List.getD];rw[List.getElem?_set_ne U0]
theorem hdrs_set(rows:List (List Nat))(bs:List (Nat × Nat))(k:bs.length=rows.length)(i:Nat)(h:i<rows.length)(r:List Nat)(b:Nat × Nat):
 hdrs (rows.set i r) (bs.set i b)=(hdrs rows bs).set i (zS b.1 r.length b.2):=by
 apply List.ext_getElem
 . simp[hdrs]
 . intro j d f;(have g:j<rows.length:=by simpa[hdrs] using d);rw[List.getElem_set];simp only[hdrs,List.getElem_map,List.getElem_range,hdr,bk,cp,getD_set _ _ _ _ _ h,getD_set bs i j b (0,0) U0];by_cases c:i=j
   . subst c;simp
   . rw[if_neg (fun e=>c e.symm),if_neg (fun e=>c e.symm),if_neg c]
theorem GridAt.put(h:GridAt w B R cR rows bs){i:Nat}(l:i<rows.length){g c:Nat}{r:List Nat}(n:Row w B g c (nz r))(m:∀ j,j<rows.length->bk bs j≠g):
 GridAt (w.setCell (zA R i) (zS g r.length c)) B R cR (rows.set i r) (bs.set i (g,c)):=by
 refine⟨by simp[h.len],?_,fun j hj=>?_,fun j k hj hk hjk=>?_⟩
 . rw[hdrs_set rows bs h.len i l r (g,c),List.length_set];exact(World.ownsRow.stored h.out i _).1
 . rw[List.length_set] at hj;unfold bk cp;rw[getD_set _ _ _ _ _ l,getD_set bs i j (g,c) (0,0) (by rw[h.len];exact l)];by_cases b:j=i
   . subst b;rw[if_pos rfl,if_pos rfl];exact n.far (p:=(zA R j)) (h.ne n) _
   . rw[if_neg b,if_neg b];exact(h.row j hj).far (p:=(zA R i)) (h.ne (h.row j hj)) _
 . rw [List.length_set] at hj hk;unfold bk;rw [getD_set bs i j (g,c) (0,0) (by rw [h.len];exact l),getD_set bs i k (g,c) (0,0) (by rw [h.len];exact l)];by_cases d:j=i
   . rw[if_pos d,if_neg U0];exact fun e=>m k hk e.symm
   . rw[if_neg d];by_cases f:k=i
     . rw[if_pos f];exact m j hj
     . rw[if_neg f];exact h.nd j k hj hk hjk
theorem GridAt.turn(h:GridAt w B R cR rows bs){i:Nat}(d:i<rows.length){r:List Nat}(g:r.length=(rows.getD i []).length)(l:Row w' B (bk bs i) (cp bs i) (nz r))(f:w.grownBy w' (some (bk bs i))):
 GridAt w' B R cR (rows.set i r) bs:=by
 have c:=h.ne (h.row i d);refine⟨by simp[h.len],?_,fun j hj=>?_,fun j k hj hk hjk=>h.nd j k (by simpa using hj) (by simpa using hk) hjk⟩
 . have e : hdrs (rows.set i r) bs = hdrs rows bs := by
    unfold hdrs;rw[List.length_set];apply List.map_congr_left;intro j _;unfold hdr;rw[getD_set _ _ _ _ _ d];by_cases b:j=i
    . subst b;rw[if_pos rfl,g]
    . rw[if_neg b]
   rw[e,List.length_set];exact own_below h.out (f.block R h.lt.2 (fun e=>c (by injection e with e;exact e.symm)))
 . rw[List.length_set] at hj;rw[getD_set _ _ _ _ _ d];by_cases b:j=i
   . subst b;rw[if_pos rfl];exact l
   . rw[if_neg b];exact(h.row j hj).grown f (fun e=>h.nd j i hj d b (by injection e))
end
def RowsAt(w:World)(B:Nat)(A:Option Addr)(zs:List (List Int)):Prop:=
 0<zs.length->∃b o,A=some (zA b o)/\b<B/\∀i,i<zs.length->∃(Ai:Option Addr)(ci:Nat),w.cell? (zA b (o+i))=some (zL Ai (zs.getD i []).length ci)/\IntsAt w B Ai (zs.getD i [])
theorem RowsAt.keep{w w':World}{B:Nat}{A:Option Addr}{zs:List (List Int)}(h:RowsAt w B A zs)(l:Below B w w'):RowsAt w' B A zs:=fun hz=>by
 obtain⟨b,o,e,c,k⟩:=h hz
 refine⟨b,o,e,c,fun i hi=>?_⟩
 obtain⟨d,f,g,j⟩:=k i hi
 exact⟨d,f,(l.cell (p:=(zA b (o+i))) c).trans g,j.keep l⟩
theorem RowsAt.more{w:World}{B B':Nat}{A:Option Addr}{zs:List (List Int)}(h:RowsAt w B A zs)(l:B<=B'):RowsAt w B' A zs:=fun hz=>by
 obtain⟨b,o,e,k,j⟩:=h hz
 refine⟨b,o,e,U0,fun i hi=>?_⟩
 obtain⟨c,d,f,g⟩:=j i hi
 exact⟨c,d,f,g.more l⟩
theorem RowsAt.at_{w:World}{B:Nat}{A:Option Addr}{zs:List (List Int)}(h:RowsAt w B A zs){i:Nat}(j:i<zs.length):∃b o Ai ci,A=some (zA b o)/\b<B/\w.cell? (zA b (o+i))=some (zL Ai (zs.getD i []).length ci)/\IntsAt w B Ai (zs.getD i []):=by obtain⟨b,o,e,c,g⟩:=h U0;obtain⟨Ai,ci,d,f⟩:=g i j;exact⟨b,o,Ai,ci,e,c,d,f⟩
def nzs(rows:List (List Nat)):List (List Int):=rows.map nz
theorem nzs_len(rows:List (List Nat)):(nzs rows).length=rows.length:=by simp[nzs]
theorem nzs_getD(rows:List (List Nat))(i:Nat):(nzs rows).getD i []=nz (rows.getD i []):=by unfold nzs;simp only[List.getD,List.getElem?_map];cases rows[i]?<;>rfl
structure PGrid (w:World) (B R:Nat) (rows:List (List Nat)) (bs:List (Nat × Nat)) (k:Nat):Prop where
 len:bs.length=k
 le:k<=rows.length
 out:w.ownsRow B 23 1 (zS R rows.length rows.length) rows.length ((List.range k).map (hdr rows bs)++List.replicate (rows.length-k) (zL none 0 0))
 row:∀i,i<k->Row w B (bk bs i) (cp bs i) (nz (rows.getD i []))
 nd:∀i j,i<k->j<k->i≠j->bk bs i≠bk bs j
theorem getD_snoc_lt{α:Type}{l:List α}{x d:α}{i:Nat}(b:i<l.length):(l++[x]).getD i d=l.getD i d:=by simp only[List.getD];rw[List.getElem?_append_left b]
theorem getD_snoc_eq{α:Type}(l:List α)(x d:α):(l++[x]).getD l.length d=x:=by simp[List.getD]
theorem PGrid.step{w w1:World}{B R:Nat}{rows:List (List Nat)}{x:List (Nat × Nat)}{k g c:Nat}(h:PGrid w B R rows x k)(C:k<rows.length)(y:Below w.heap.size w w1)(_:B<=w.heap.size)(z:Row w1 w.heap.size g c (nz (rows.getD k []))):
 PGrid (w1.setCell (zA R k) (zS g (rows.getD k []).length c)) B R rows (x++[(g,c)]) (k+1):=by
 have u:=World.ownsRow.lt h.out R rfl;have v:=z.lt;have m:g≠R:=U0;refine⟨by simp[h.len],C,?_,fun i n=>?_,fun i j n hj hij=>?_⟩
 . have t := (World.ownsRow.stored (own_below h.out (y.block R u.2)) k (zS g (rows.getD k []).length c)).1
   have e:((List.range k).map (hdr rows x)++List.replicate (rows.length-k) (Value.slice none 0 0)).set k (zS g (rows.getD k []).length c)
    = (List.range (k+1)).map (hdr rows (x++[(g,c)]))++List.replicate (rows.length-(k+1)) (zL none 0 0):=by
    rw[List.set_append_right _ _ U2,List.length_map,List.length_range,Nat.sub_self,show rows.length-k=(rows.length-(k+1))+1 by omega,List.replicate_succ,List.set_cons_zero,List.range_succ,List.map_append,List.append_assoc]
    congr 1
    . apply List.map_congr_left
      intro i n
      have b:=List.mem_range.1 n
      unfold hdr bk cp
      rw[getD_snoc_lt (by rw[h.len];exact b)]
    . simp only[List.map_cons,List.map_nil,List.singleton_append,hdr,bk,cp]
      have:=getD_snoc_eq x (g,c) (0,0)
      rw[h.len] at this
      rw[this]
   rw[<- e];exact t
 . by_cases d : i = k
   . subst d;unfold bk cp;have:=getD_snoc_eq x (g,c) (0,0);rw[h.len] at this;rw[this];exact(z.base (B':=B) U0).far (p:=(zA R i)) m _
   . (have b:i<k:=by omega);unfold bk cp;rw[getD_snoc_lt (by rw[h.len];exact b)];have f:=h.row i b;refine(f.below y f.lt.2).far (p:=(zA R k)) ?_ _;intro e;obtain⟨c1,s⟩:=qdE h.out;obtain⟨c2,l⟩:=qdE (e:=3) f;have r:bk x i=R:=e;rw[r,s] at l;injection l with l;injection l with _ ht;exact absurd ht dc
 . unfold bk;have q:=getD_snoc_eq x (g,c) (0,0);rw [h.len] at q;by_cases d:i=k
   . subst d;rw[q,getD_snoc_lt (i:=j) (by rw[h.len];omega)];have:=(h.row j U0).lt.2;unfold bk at this;omega
   . rw[getD_snoc_lt (i:=i) (by rw[h.len];omega)];by_cases o:j=k
     . subst o;rw[q];have:=(h.row i U0).lt.2;unfold bk at this;omega
     . rw[getD_snoc_lt (i:=j) (by rw[h.len];omega)];exact h.nd i j U0 U0 hij
theorem PGrid.done{w:World}{B R:Nat}{rows:List (List Nat)}{b:List (Nat × Nat)}(h:PGrid w B R rows b rows.length):GridAt w B R rows.length rows b:=by refine⟨h.len,?_,h.row,h.nd⟩;have:=h.out;rw[Nat.sub_self,List.replicate_zero,List.append_nil] at this;exact this
def RelCl(w:World)(rows:List (List Nat))(v11:Value)(wr:World):Prop:=
 ∃k bs,v11=zN k/\PGrid wr w.heap.size w.heap.size rows bs k/\Below w.heap.size w wr
theorem clone_c(rows:List (List Nat))(A:Option Addr)(c:Nat)(w:World)(hA:RowsAt w w.heap.size A (nzs rows))(hr:∀ r∈rows,0<r.length/\r.length<=1000000)(hl:rows.length<=1000000):
 zC 231 #[zL A rows.length c] w fun e w'=>e=.returned (zS w.heap.size rows.length rows.length)/\(∃bs,GridAt w' w.heap.size w.heap.size rows.length rows bs)/\Below w.heap.size w w':=by
 obtain⟨W,d,x,y,z⟩:=qaF infoInts;have HI:=zH d;have K:=zH x;have L:=zH y;have C:=zH (show W.bytes*rows.length<=281474976710656 by rw[z];omega);have D:=zH (show rows.length<=maxLen by unfold maxLen;omega);have X:=zH hA;have I:Hid (∀k,k<rows.length->0<(rows.getD k []).length/\(rows.getD k []).length<=1000000):=fun k N=>by
  have:rows.getD k []=rows[k]:=by simp[List.getD,N]
  rw[this];exact hr _ (List.getElem_mem N)
 clear d x y z hA hr;go_enter Tryz.func231,Tryz.ntmps231;go_wp2_with (refine wpList_make_full w rfl (.tmp 7) (.tmp 7) 30 rfl w.heap.size 23 W (zL none 0 0) 1 Tryz.underlying30 HI.out K.out L.out .i64 .i64 rows.length rows.length rows.length rfl rfl rfl rfl C.out D.out (Nat.le_refl _) ?_;intro t l v);have S:Hid (RelCl w rows (zN 0) t):=by
  refine⟨0,[],rfl,⟨rfl,Nat.zero_le _,?_,fun i d=>absurd d U0,fun i j d=>absurd d U0⟩,qaL v⟩;have e:(List.range 0).map (hdr rows [])++List.replicate (rows.length-0) (Value.slice none 0 0)=(madeCells (Value.slice none 0 0).cells (rows.length*1)).toList:=by
   apply List.ext_getElem
   . simp[madeCells]
   . intro i U V;simp[madeCells,Value.cells,Nat.mod_one]
  rw[e];exact l
 clear l v;go_loopw [11] (fun v11 wr=>RelCl w rows v11 wr) (fun v11 _=>rows.length-(intOf v11).toNat);case atStart=>exact S.out
 case round =>
  obtain⟨k,bs,rfl,n,M⟩:=hrel;have s:=zH n;have B:=zH M;have N:=n.le;have q:w.heap.size<=wr.heap.size:=M.size;clear n M S;by_cases m:k<rows.length
  . obtain⟨b,o,R,T,rfl,aa,hc,d⟩:=(X.out.keep B.out).at_ (i:=k) (by rw[nzs_len];exact m);rw[nzs_getD,qaA] at hc;rw[nzs_getD] at d;obtain⟨O,P⟩:=I.out k m;(have Z:Hid (zC 74 #[zL R (rows.getD k []).length T] wr fun e w'=>(∃g c',e=.returned (zS g (rows.getD k []).length c')/\Row w' wr.heap.size g c' (nz (rows.getD k [])))/\Below wr.heap.size wr w'):=by have h:=sclone_c (nz (rows.getD k [])) R T wr (d.more q) (by rw[qaA];exact O) (by rw[qaA];exact P);rw[qaA] at h;exact h);have J:Hid (∀(t:World)(g c:Nat),Below wr.heap.size wr t->Row t wr.heap.size g c (nz (rows.getD k []))->PGrid (t.setCell (zA w.heap.size k) (zS g (rows.getD k []).length c)) w.heap.size w.heap.size rows (bs++[(g,c)]) (k+1)):=fun t g c U V=>s.out.step m U q V;have u:=World.ownsRow.lt s.out.out w.heap.size rfl;have H:Hid (wr.frozen? (zA w.heap.size k)=false):=World.ownsRow.frozenAt s.out.out k;(have E:Hid (wr.cell? (zA w.heap.size k)=some (zL none 0 0)):=by show _=_;rw[World.ownsRow.cellAt s.out.out k U0,List.getElem?_append_right U2,List.length_map,List.length_range,Nat.sub_self,List.getElem?_replicate,if_pos U0]);clear d s;generalize rows.getD k []=r at *;go_wp2_with fail;(with_reducible refine Z.out.mono ?_);rintro e Q ⟨⟨g,c',rfl,hrow⟩,hb2⟩;have HR:=zH hrow;have f:=zH hb2;have f2:Q.frozen? (zA w.heap.size k)=false:=(hb2.frozen (p:=(zA w.heap.size k)) u.2).trans H.out;have c2:Q.cell? (zA w.heap.size k)=some (zL none 0 0):=(hb2.cell (p:=(zA w.heap.size k)) u.2).trans E.out;clear hrow hb2;go_wp2_with fail;go_roundw;case rel=>exact⟨k+1,bs++[(g,c')],gn,J.out Q g c' f.out HR.out,(B.out.trans (f.out.mono q)).setCell (p:=(zA w.heap.size k)) (Nat.le_refl _) _⟩
    case measure=>exact mE
  . (obtain rfl:k=rows.length:=by omega);go_wp2_with fail;go_ret;exact⟨rfl,⟨bs,s.out.done⟩,B.out⟩
end Go.Proofs.YtndipkplnkfoeaaGreat
