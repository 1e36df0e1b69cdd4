/- Parts of the proof. -/
import Derived.Laws.EntriesVeiled
import Derived.Test.YtflejelbdlelpaaGreatR24
import Derived.Test.YtflejelbdlelpaaGreatR20
import Derived.Shelf.Abstract
set_option maxRecDepth 100000
set_option maxHeartbeats 8000000
namespace Go.Proofs.YtflejelbdlelpaaGreat
open Go.RowKit Pln
def BPost(b:Bool)(w:Wo)(e:Ending)(w':Wo):Prop:=e=.returned (.bool b)/\zB w w'
def ChkPost(bb:Bool)(w:Wo)(e:Ending)(w':Wo):Prop:=e=.returned (Y (if bb=true then 0 else 13))/\zB w w'
section
variable {P:Program} {S:Wo->Prop} {K:Act->Wo->Prop} {o:Oper} {r:List (Nat × Oper)} {a:Act} {w:Wo}
theorem mixf_make(k:o.guard=none)(l c:Operand)(t:TypeId)(m:o.op=Op.makeSlice t l c)(base:Nat)(e:TypeId)(i:TypeInfo)(z:Value)(size:Nat)(v:P.underlying t=some (.slice e))(x:P.info? e=some i)(y:i.zero=some z)(A:i.size=size)(q p:IntKind)(n:Nat)(C:a.eval l=.int q (n:Int))(B:a.eval c=.int p (n:Int))(s:i.bytes*n<=281474976710656)(u:n<=maxLen)(b4:base<=w.heap.size)(h:∀w',w'.ownsRow base e size (zS w.heap.size n n) n (madeCells z.cells (n*size)).toList->w.grownBy w' none->S w'/\wpMixF P S K r (a.put o.dst (zS w.heap.size n n)) w'):
 wpMixF P S K ((2,o):: r) a w:=by obtain⟨w',b,g,j⟩:=run_make_full (P:=P) w base t e i z size v x y A q p n s u b4;obtain⟨d,f⟩:=h w' g j;refine qdM k ?_ d f;simp[execOp,m,C,B,b,Result.andThen]
end
theorem range_lt{w:Wo}{b o:Nat}{v:Value}{cs:List Value}(h:w.rangeAt b o (v :: cs)):b<w.heap.size:=World.block_lt_of_cell? w (zA b (o+0)) (h 0 v rfl)
end Go.Proofs.YtflejelbdlelpaaGreat
namespace Go.Proofs.YtflejelbdlelpaaGreat
open Go.RowKit Pln Go.Proofs.Tryz
theorem eweight_c(v:LN)(A:OA)(c:Nat)(w:Wo)(t:zI w A (nz v))(u:v.length<=1000):
 zC 112 #[zL A v.length c] w fun e w'=>e=.returned (Y ((Dv.wt v:Nat):Int))/\w=w':=by
 have i:=zH t;clear t;go_enter func112,ntmps112;go_wp2;go_loopw [3,8] (fun v3 v8 wr=>RelWg v w v3 v8 wr) (fun _ v8 _=>v.length-(intOf v8).toNat);case atStart=>exact⟨0,U0,rfl,rfl,rfl⟩
 case round =>
  obtain⟨k,q,rfl,rfl,rfl⟩:=hrel;have m:Dv.wt (v.take k)<=1000:=Nat.le_trans (rwt_le _) (by rw[List.length_take];omega);by_cases f:k<v.length
  . obtain ⟨b,o,rfl,p,h⟩ := i.o.at_ (k := k) (by rw [qaA];exact f);rw [qaC] at h;have d:=zH (rwt_take f);have r:(0:Int)<=(k:Int):=U0;have s:(k:Int)<(v.length:Int):=U0;have j:IntKind.i64.wrap ((k:Int)+1)=(k:Int)+1:=IntWalk.i64_in _ U0;have l:IntKind.i64.wrap (((Dv.wt (v.take k):Nat):Int)+1)=((Dv.wt (v.take k):Nat):Int)+1:=IntWalk.i64_in _ U0;by_cases g:v.getD k 0=0
    . rw[if_pos g] at d;rw[g] at h;clear g;go_wp2;go_roundw;case rel=>exact⟨k+1,U0,U3,by rw[d.o];rfl,rfl⟩
      case measure=>simp[intOf];omega
    . rw[if_neg g] at d;(have n:(((v.getD k 0:Nat):Int) != 0)=true:=by simpa using g);generalize v.getD k 0=x at *;go_wp2;go_roundw;case rel=>exact⟨k+1,U0,U3,by rw[d.o];go_num,rfl⟩
      case measure=>simp[intOf];omega
  . (obtain rfl:k=v.length:=by omega);rw[List.take_length];go_wp2;go_ret;exact⟨rfl,rfl⟩
theorem ewalk_c(cs:List Value)(w:Wo):
 zC 111 #[.agg cs.toArray] w fun e w'=>e=.returned (.func (.func 158) #[] #[zP w.heap.size])/\w'=w.alloc (.cells cs.toArray 27):=by go_enter func111,ntmps111;go_wp2;go_ret;exact⟨rfl,rfl⟩
end Go.Proofs.YtflejelbdlelpaaGreat
namespace Go.Proofs.YtflejelbdlelpaaGreat
open Go.RowKit Pln
def cnts:Nat->LN
 |0=>[0,0,0,0]
 |1=>[1,0,0,0]
 |_=>[1,0,0,1]
theorem qfZ{B l:Nat}{a W:Wo}(h:Below B a W)(b:B<=l)(o:Obj):Below B a (W.putObj l o):=
 ⟨h.os,h.tape,h.output,by simpa using h.size,fun k hk=>(World.putObj_heap_other U0).trans (h.block k hk)⟩
structure WtI (w:Wo) (Bo bo k:Nat) (W:Wo):Prop where
 box:W.cell? (zA Bo 0)=some (zS bo 4 4)
 row:Row W w.heap.size bo 4 (nz (cnts k))
 low:zB w W
def RdPost(I:Nat->Wo->Prop)(bo k:Nat)(W2:Wo)(e:Exit)(_:Act)(W3:Wo):Prop:=e=.normal/\I (k+1) W3/\W2.heap.size<=W3.heap.size/\∀b,b<W2.heap.size->b≠bo->W3.heap[b]?=W2.heap[b]?
end Go.Proofs.YtflejelbdlelpaaGreat
namespace Go.Proofs.YtflejelbdlelpaaGreat
open Go.RowKit Pln Go.Proofs.Tryz
def nzIx:LN->Nat->Int
 |[],_=>-1
 |x :: r,k=>if x=0 then nzIx r (k+1) else k
theorem nzIx_step{v:LN}{k:Nat}(b:k<v.length):nzIx (v.drop k) k=if v.getD k 0=0 then nzIx (v.drop (k+1)) (k+1) else(k:Int):=by
 rw[List.drop_eq_getElem_cons b];have:v.getD k 0=v[k]:=by simp[List.getD,b]
 rw[this];rfl
def RelNx(v:LN)(w:Wo)(r:Int)(v8:Value)(wr:Wo):Prop:=∃k:Nat,k<=v.length/\v8=Y k/\nzIx (v.drop k) k=r/\wr=w
theorem indexnz_c(f:Nat)(C:∀ (x:Int)(W:Wo),zC f #[Y x] W fun e w'=>e=.returned (.bool (x != 0))/\W=w')(D:∀ (args:Array Value)(W:Wo),(callFunc f args).run prog W=.ok (.enter f args) W)(v:LN)(A:OA)(c:Nat)(w:Wo)(B:zI w A (nz v))(E:v.length<=1000):
 zC 94 #[zL A v.length c,.func (.func f) #[] #[]] w fun e w'=>e=.returned (Y (nzIx v 0))/\w=w':=by
 have l:=zH B;have n:=zH C;have g:zK (RelNx v w (nzIx v 0) (Y ((0:Nat):Int)) w):=⟨0,U0,rfl,rfl,rfl⟩;clear B C;generalize nzIx v 0=r at *;go_enter func94,ntmps94;go_wp2;go_loopw [8] (fun v8 wr=>RelNx v w r v8 wr) (fun v8 _=>v.length-(intOf v8).toNat);case atStart=>exact g.o
 case round =>
  obtain⟨k,u,rfl,i,rfl⟩:=hrel;clear g;by_cases h:k<v.length
  . obtain ⟨b,o,rfl,t,p⟩ := l.o.at_ (k := k) (by rw [qaA];exact h);rw [qaC] at p;have y:(0:Int)<=(k:Int):=U0;have z:(k:Int)<(v.length:Int):=U0;have q:IntKind.i64.wrap ((k:Int)+1)=(k:Int)+1:=IntWalk.i64_in _ U0;(have d:zK ((if v.getD k 0=0 then nzIx (v.drop (k+1)) (k+1) else (k:Int))=r):=by rw [<- nzIx_step h];exact i);clear i;generalize v.getD k 0=x at *;have m:=zH (n.o (x:Int) wr);go_wp2_with fail;refine m.o.mono ?_;rintro e w' ⟨rfl,rfl⟩;by_cases j:x=0
    . rw[if_pos j] at d;subst j;go_wp2;go_roundw;case rel=>exact⟨k+1,U0,U3,d.o,rfl⟩
      case measure=>simp[intOf];omega
    . rw[if_neg j] at d;(have s:((x:Int) != 0)=true:=by rw[bne_iff_ne];omega);go_wp2;go_ret;have e:=d.o;exact⟨by rw[<- e];rfl,rfl⟩
  . (obtain rfl:k=v.length:=by omega);(have d:zK ((-1:Int)=r):=by rw[List.drop_eq_nil_of_le zn] at i;exact i);clear i;go_wp2;go_ret;have e:=d.o;exact⟨by rw[<- e];rfl,rfl⟩
theorem itself1_c(x:Int)(W:Wo):zC 50 #[Y x] W fun e w'=>e=.returned (.bool (x != 0))/\W=w':=by go_enter func50,ntmps50;go_wp2;go_ret;exact⟨rfl,rfl⟩
theorem columns1_c(x:Int)(W:Wo):zC 95 #[Y x] W fun e w'=>e=.returned (.bool (x != 0))/\W=w':=by go_enter func95,ntmps95;go_wp2;go_ret;exact⟨rfl,rfl⟩
theorem containsnz_c(v:LN)(A:OA)(c:Nat)(w:Wo)(d:zI w A (nz v))(f:v.length<=1000):
 zC 49 #[zL A v.length c,.func (.func 50) #[] #[]] w fun e w'=>e=.returned (.bool (decide (0<=nzIx v 0)))/\w=w':=by have b:=zH (indexnz_c 50 itself1_c (enters_of func50 U1 rfl) v A c w d f);clear d;generalize nzIx v 0=r at *;go_enter func49,ntmps49;go_wp2_with fail;refine b.o.mono ?_;rintro e w' ⟨rfl,rfl⟩;go_wp2;go_ret;exact⟨rfl,rfl⟩
end Go.Proofs.YtflejelbdlelpaaGreat
