/- Parts of the proof. -/
import Derived.Test.YtflejelbdlelpaaGreatR31
set_option maxRecDepth 100000
set_option maxHeartbeats 8000000
namespace Go.Proofs.YtflejelbdlelpaaGreat
open Go.RowKit Pln
def zwK(f:Nat->Nat->Nat)(a b:LN)(t:Nat):LN:=(List.zipWith f a b).take t++a.drop t
theorem zwK_zero(f:Nat->Nat->Nat)(a b:LN):zwK f a b 0=a:=by simp[zwK]
theorem zwK_len{f:Nat->Nat->Nat}{a b:LN}(h:a.length=b.length){t:Nat}(c:t<=a.length):(zwK f a b t).length=a.length:=by unfold zwK;rw[List.length_append,List.length_take,List.length_zipWith,List.length_drop];omega
theorem zwK_all{f:Nat->Nat->Nat}{a b:LN}(h:a.length=b.length):zwK f a b a.length=List.zipWith f a b:=by unfold zwK;rw[List.drop_length,List.append_nil,List.take_of_length_le (by rw[List.length_zipWith];omega)]
theorem zwK_at{f:Nat->Nat->Nat}{a b:LN}(h:a.length=b.length){t:Nat}(c:t<a.length):(zwK f a b t).getD t 0=a.getD t 0:=by unfold zwK;simp only[List.getD];rw[List.getElem?_append_right (by rw[List.length_take,List.length_zipWith];omega),List.length_take,List.length_zipWith,show t-min t (min a.length b.length)=0 by omega,List.getElem?_drop,Nat.add_zero]
theorem zwK_get{f:Nat->Nat->Nat}{a b:LN}(h:a.length=b.length){t:Nat}(g:t<=a.length)(i:Nat):(zwK f a b t)[i]?=if i<t then(List.zipWith f a b)[i]? else a[i]?:=by
 have d:((List.zipWith f a b).take t).length=t:=by rw[List.length_take,List.length_zipWith];omega
 unfold zwK;by_cases c:i<t
 . rw[if_pos c,List.getElem?_append_left U0,List.getElem?_take_of_lt c]
 . rw[if_neg c,List.getElem?_append_right U0,d,List.getElem?_drop,show t+(i-t)=i by omega]
theorem zwK_set{f:Nat->Nat->Nat}{a b:LN}(h:a.length=b.length){t:Nat}(g:t<a.length):(zwK f a b t).set t (f (a.getD t 0) (b.getD t 0))=zwK f a b (t+1):=by
 have d:t<b.length:=U0;apply List.ext_getElem?;intro i;rw[List.getElem?_set,zwK_get h U0,zwK_get h U0,zwK_len h U0];by_cases e:t=i
 . subst e;rw[if_pos rfl,if_pos g,if_pos U0,List.getElem?_eq_getElem (by rw[List.length_zipWith];omega),List.getElem_zipWith];simp[List.getD,g,d]
 . rw[if_neg e];by_cases c:i<t
   . rw[if_pos c,if_pos U0]
   . rw[if_neg c,if_neg U0]
def subF(O:Ops)(y:Nat)(a b:Nat):Nat:=O.add a (O.neg (O.mul y b))
end Go.Proofs.YtflejelbdlelpaaGreat
namespace Go.Proofs.YtflejelbdlelpaaGreat
open Pln
namespace Al
section
variable {q:Nat} {O:Ops} {h:Fld q O}
def fun_(h:Fld q O)(k:Nat)(c:Nat->El q O h)(v:LN):El q O h:=sm k fun i=>c i*wd h v i
structure BasP (h:Fld q O) (k:Nat) (G:LL) (bs:LL) (pl set:LN):Prop where
 len:pl.length=bs.length
 num:set.length=bs.length
 ok:∀r∈bs,Dv.Ok q k r
 lt:∀i,i<bs.length->pl.getD i 0<k
 one:∀i,i<bs.length->wd h (bs.getD i []) (pl.getD i 0)=1
 zero:∀i j,j<i->i<bs.length->wd h (bs.getD i []) (pl.getD j 0)=0
 lin:∀c:Nat->El q O h,(∀s∈set,fun_ h k c (colOf G s)=0)->∀r∈bs,fun_ h k c r=0
def redG(O:Ops)(bs:LL)(pl v:LN):Nat->LN
 |0=>v
 |t+1=>if(redG O bs pl v t).getD (pl.getD t 0) 0=0 then redG O bs pl v t else List.zipWith (subF O ((redG O bs pl v t).getD (pl.getD t 0) 0)) (redG O bs pl v t) (bs.getD t [])
end
end Al
end Go.Proofs.YtflejelbdlelpaaGreat
namespace Go.Proofs.YtflejelbdlelpaaGreat
open Go.RowKit Pln
structure Elem {X:Type} (E:Wo->(Nat->Prop)->Value->X->Prop):Prop where
 blocks:∀{w w':Wo}{p:Nat->Prop}{u:Value}{x:X},E w p u x->w.heap.size<=w'.heap.size->(∀k,p k->k<w.heap.size->w'.heap[k]?=w.heap[k]?)->E w' p u x
 imp:∀{w:Wo}{p q:Nat->Prop}{u:Value}{x:X},E w p u x->(∀b,b<w.heap.size->p b->q b)->E w q u x
 one:∀{w:Wo}{p:Nat->Prop}{u:Value}{x:X},E w p u x->u.oneCell'=true
def IntsQ(w:Wo)(p:Nat->Prop)(A:OA)(zs:LI):Prop:=
 0<zs.length->∃b o,A=some (zA b o)/\p b/\b<w.heap.size/\∀j,j<zs.length->w.cell? (zA b (o+j))=some (Y (zs.getD j 0))
theorem IntsQ.ints{w:Wo}{p:Nat->Prop}{A:OA}{zs:LI}(h:IntsQ w p A zs):zI w A zs:=fun hz=>by
 obtain⟨b,o,e,_,c,d⟩:=h hz
 exact⟨b,o,e,c,d⟩
structure BXT (w:Wo) (bs:List (List Value × TypeId)) (W:Wo):Prop where
 box:∀i cs t,bs[i]?=some (cs,t)->W.heap[w.heap.size+i]?=some (.cells cs.toArray t (0,0))
 below:zB w W
 size:w.heap.size+bs.length<=W.heap.size
end Go.Proofs.YtflejelbdlelpaaGreat
