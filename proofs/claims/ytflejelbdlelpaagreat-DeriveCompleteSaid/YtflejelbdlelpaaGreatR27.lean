/- Parts of the proof. -/
import Derived.Test.YtflejelbdlelpaaGreatR24
import Derived.Test.YtflejelbdlelpaaGreatRows
import Derived.Deep.Slices
import Derived.ProofKit
import Derived.OpenShut
import Derived.Deep.DeepHandedRow
set_option maxRecDepth 100000
set_option maxHeartbeats 8000000
namespace Go.Proofs.YtflejelbdlelpaaGreat
open Go.RowKit Pln
structure BoxG (w:Wo) (a r:List Value) (W:Wo):Prop where
 below:zB w W
 size:w.heap.size+1<W.heap.size
 k0:W.heap[w.heap.size]?=some (.cells a.toArray 82 (0,0))
 k1:W.heap[w.heap.size+1]?=some (.cells r.toArray 27 (0,0))
end Go.Proofs.YtflejelbdlelpaaGreat
namespace Go.Proofs.YtflejelbdlelpaaGreat
open Go.RowKit Pln Go.Proofs.Tryz
def NatsAt(w:Wo)(A:OA)(Ns:LN):Prop:=
 0<Ns.length->∃b o,A=some (zA b o)/\b<w.heap.size/\∀j,j<Ns.length->∃v,w.cell? (zA b (o+j))=some v/\NatV w 0 v (Ns.getD j 0)
theorem NatsAt.grow{w w':Wo}{A:OA}{Ns:LN}(h:NatsAt w A Ns)(i:zB w w'):NatsAt w' A Ns:=fun hz=>by
 obtain⟨b,o,e,c,g⟩:=h hz
 refine⟨b,o,e,Nat.lt_of_lt_of_le c i.size,fun j hj=>?_⟩
 obtain⟨v,d,f⟩:=g j hj
 exact⟨v,(i.cell (p:=(zA b (o+j))) c).trans d,f.grow i⟩
theorem nats_two{w:Wo}{x y:Value}{M N:Nat}(d:NatV w 0 x M)(f:NatV w 0 y N):NatsAt (w.alloc (.cells #[x,y] 138)) (zO w.heap.size) [M,N]:=fun _=>⟨w.heap.size,0,rfl,U2,fun j hj=>by
 have c:(w.alloc (.cells #[x,y] 138)).heap[w.heap.size]?=some (.cells #[x,y] 138 (0,0)):=heap_alloc_new _ _
 have b:zB w (w.alloc (.cells #[x,y] 138)):=zV.alloc zn _
 match j,hj with
 |0,_=>exact⟨x,cell_of_row _ _ 0 _ _ _ c,d.grow b⟩
 |1,_=>exact⟨y,cell_of_row _ _ 1 _ _ _ c,f.grow b⟩⟩
theorem qfN{A:OA}{l:LN}{c:Nat}{w:Wo}(b:WordsAt w w.heap.size A l)(f:l.length<=1000000)(d:l.length<=c)(g:Cn l):
 zC 202 #[zL A l.length c] w fun e w'=>e=.returned (zL A l.length l.length)/\w=w':=by have:=short_c A l c w b f d;rw[cn_trm g] at this;exact this
theorem sum_take_succ(l:LN)(k:Nat)(b:k<l.length):(l.take (k+1)).sum=(l.take k).sum+l.getD k 0:=by rw[List.take_add_one,List.sum_append];simp[List.getD,b]
theorem sum_take_le(l:LN)(k:Nat):(l.take k).sum<=l.sum:=by have h:=List.take_append_drop k l;have:=congrArg List.sum h;rw[List.sum_append] at this;omega
def LIM:Nat:=BB^200
theorem qfQ{l:LN}(h:Cn l)(b:val BB l<LIM):l.length<=200:=cn_len h b
def RelQa(w:Wo)(Ns:LN)(v3 v8:Value)(wr:Wo):Prop:=
 ∃k:Nat,k<=Ns.length/\v8=Y (k:Int)/\NatV wr w.heap.size v3 (Ns.take k).sum/\zB w wr
theorem natAdd_c(A:OA)(Ns:LN)(c:Nat)(w:Wo)(hA:NatsAt w A Ns)(hs:Ns.sum<LIM)(hl:Ns.length<=1000000):
 zC 162 #[zL A Ns.length c] w (NatR Ns.sum w):=by
 have D:=zH hA;have P:=zH hs;have O:zK (RelQa w Ns (zL none 0 0) (Y 0) w):=⟨0,U0,rfl,NatV.zero _ _,Below.refl _ _⟩;clear hA hs;go_enter func162,ntmps162;go_wp2;go_loopw [3,8] (fun v3 v8 wr=>RelQa w Ns v3 v8 wr) (fun _ v8 _=>Ns.length-(intOf v8).toNat);case atStart=>exact O.o
 case round =>
  obtain⟨k,hk,rfl,z,h⟩:=hrel;have f:=zH h;obtain⟨M,B,c1,rfl,J,j,L,S⟩:=z;have Q:=sum_take_le Ns k;have n1:B.length<=200:=qfQ j (by rw[L];exact Nat.lt_of_le_of_lt Q P.o);have l:=zH j;have q:=zH L;have r:=zH S;clear h j L S Q O;by_cases u:k<Ns.length
  . obtain⟨b,o,rfl,I,d⟩:=D.o U0;obtain⟨v,t,C,x,c2,rfl,K,g,R,T⟩:=d k u;have y:wr.cell? (zA b (o+k))=some (zL C x.length c2):=(f.o.cell (p:=(zA b (o+k))) I).trans t;have n:=zH (sum_take_succ Ns k u);have n2:x.length<=200:=qfQ g (by have X:=P.o;have Z:=sum_take_le Ns (k+1);have h5:=n.o;omega);have s:zK (WordsAt wr wr.heap.size C x):=(T.words.keep f.o).more f.o.size;have m:=zH (qfN s.o U0 K g);have N:=zH (plus_c M C B x c1 x.length wr r.o.words s.o l.o.1 g.1 U0 U0);have H:=zH R;clear d t g R T D;go_wp2_with fail;refine m.o.mono ?_;rintro e w' ⟨rfl,rfl⟩;clear m;go_wp2_with fail;refine N.o.mono ?_;rintro e w' ⟨v,rfl,z,h⟩;have W:=zH z;have i:=zH (f.o.trans (h.mono f.o.size));have E:=zH f.o.size;clear z h N y;go_wp2;go_roundw;case rel=>refine⟨k+1,U0,U3,?_,i.o⟩;rw[n.o,<- q.o,<- H.o];exact W.o.low E.o
    case measure=>simp[intOf];omega
  . (obtain rfl:k=Ns.length:=by omega);have V:=zH (trim_c M B c1 wr r.o.words U0 J);clear D;go_wp2_with fail;refine V.o.mono ?_;rintro e w' ⟨v,rfl,ho,h⟩;have U:=zH ho;have i:=zH (f.o.trans (h.mono f.o.size));clear ho h;go_wp2;go_ret;refine⟨_,rfl,?_,i.o⟩;(have e:Ns.sum=val BB B:=by rw[q.o,List.take_length]);rw[e];exact(U.o.nat l.o.1).low f.o.size
theorem val_cut(p:Nat)(l:LN)(k:Nat)(b:k<=l.length):val p l=val p (l.take k)+p^k*val p (l.drop k):=by have:=val_app p (l.take k) (l.drop k);rw[List.take_append_drop,List.length_take,Nat.min_eq_left b] at this;exact this
theorem qfU(p:Nat)(l:LN)(k:Nat)(b:k<l.length):val p (l.drop k)=l.getD k 0+p*val p (l.drop (k+1)):=by rw[List.drop_eq_getElem_cons b,val];simp[List.getD,b]
theorem take_lt{l:LN}(h:∀d∈l,d<BB){k:Nat}(b:k<=l.length):val BB (l.take k)<BB^k:=by have:=val_ltB (l:=l.take k) fun d hd=>h d (List.mem_of_mem_take hd);rw[List.length_take,Nat.min_eq_left b] at this;exact this
theorem top_lt{a b:LN}(i:∀d∈a,d<BB){k:Nat}(g:k<a.length)(h:k<b.length)(j:val BB (a.drop (k+1))=val BB (b.drop (k+1)))(l:a.getD k 0<b.getD k 0):val BB a<val BB b:=by rw[val_cut BB a k U0,val_cut BB b k U0,qfU BB a k g,qfU BB b k h,j];have f:=take_lt i (k:=k) U0;have c:BB^k*(a.getD k 0+BB*val BB (b.drop (k+1))+1)<=BB^k*(b.getD k 0+BB*val BB (b.drop (k+1))):=Nat.mul_le_mul_left _ U0;rw[Nat.mul_add,Nat.mul_one] at c;omega
theorem short_lt{a b:LN}(g:Cn a)(h:Cn b)(i:a.length<b.length):val BB a<val BB b:=by have c:=val_ltB g.1;have d:=cn_ge h U0;have f:BB^a.length<=BB^(b.length-1):=Nat.pow_le_pow_right dc U0;omega
def cmpN(M N:Nat):Int:=if M<N then -1 else if N<M then 1 else 0
theorem cmp_c(A1 A2:OA)(W X:LN)(c1 c2:Nat)(w:Wo)(Z:WordsAt w w.heap.size A1 W)(h2:WordsAt w w.heap.size A2 X)(d1:Cn W)(d2:Cn X)(n1:W.length<=100000)(n2:X.length<=100000)(aa:W.length<=c1)(ab:X.length<=c2):
 zC 208 #[zL A1 W.length c1,zL A2 X.length c2] w fun e w'=>e=.returned (Y (cmpN (val BB W) (val BB X)))/\zB w w':=by
 have l:=zH (qfN Z U0 aa d1);have m:=zH (qfN h2 U0 ab d2);have L:=zH Z;have M:=zH h2;have q:=zH d1;have r:=zH d2;clear Z h2 d1 d2;go_enter func208,ntmps208;go_wp2_with fail;refine l.o.mono ?_;rintro e w' ⟨rfl,rfl⟩;go_wp2_with fail;refine m.o.mono ?_;rintro e w' ⟨rfl,rfl⟩;clear l m;by_cases I:W.length=X.length
 . (have B : (W.length : Int) = (X.length : Int) := by omega);go_wp2;go_loopw [5] (fun v5 wr=>∃ k:Nat,k<=W.length/\v5=Y ((k:Int)-1)/\val BB (W.drop k)=val BB (X.drop k)/\zB w wr) (fun v5 _=>(intOf v5+1).toNat);case atStart=>exact ⟨W.length,Nat.le_refl _,by rw [I],by rw [List.drop_length,I,List.drop_length],Below.refl _ _⟩
   case round =>
    obtain⟨k,T,rfl,H,E⟩:=hrel;have p:=zH E;have j:=zH H;clear E H;rcases k with _|k
    . (have c:zK (cmpN (val BB W) (val BB X)=0):=by have:=j.o;rw[List.drop_zero,List.drop_zero] at this;show _=_;unfold cmpN;rw[if_neg U0,if_neg U0]);go_wp2;go_ret;exact⟨by rw[c.o];rfl,p.o⟩
    . obtain ⟨N,P,rfl,U,J⟩ := (L.out.keep p.o).at_ (k := k) U0;obtain ⟨O,Q,rfl,V,K⟩:=(M.out.keep p.o).at_ (k:=k) U0;have u:=zH (fun h=>top_lt q.out.1 (b:=X) (k:=k) U0 U0 j.o h);have v:=zH (fun h=>top_lt r.out.1 (b:=W) (k:=k) U0 U0 j.o.symm h);(have s:zK (W.getD k 0=X.getD k 0->val BB (W.drop k)=val BB (X.drop k)):=fun h=>by rw [qfU BB W k U0,qfU BB X k U0,j.o,h]);have D:((k+1:Nat):Int)-1=(k:Int):=U0;rw [D];generalize W.getD k 0=f at *;generalize X.getD k 0=g at *;have i:zK (zB w wr.drew):=p.o.trans (zV.drew);have d:zK (zB w wr.drew.drew):=i.o.trans (zV.drew);clear j D;by_cases x:f<g
      . (have c:zK (cmpN (val BB W) (val BB X)=-1):=by show _=_;unfold cmpN;rw[if_pos (u.o x)]);have y:(f:Int)<(g:Int):=U0;go_upto_region 9 with fail;go_region;go_wp2;go_ret;exact⟨by rw[c.o];rfl,i.o⟩
      . (have y : ¬ (f : Int) < (g : Int) := by omega);have R:wr.drew.cell? (zA N (P+k))=some (.int .u32 (f:Int)):=J;have S:wr.drew.cell? (zA O (Q+k))=some (.int .u32 (g:Int)):=K;go_upto_region 9 with fail;go_region;clear J K;generalize wr.drew=wd at *;by_cases z:g<f
        . (have c:zK (cmpN (val BB W) (val BB X)=1):=by have:=v.o z;show _=_;unfold cmpN;rw[if_neg U0,if_pos this]);have A:(g:Int)<(f:Int):=U0;go_upto_region 11 with fail;go_region;go_wp2;go_ret;exact⟨by rw[c.o];rfl,d.o⟩
        . (have A : ¬(g : Int)< (f : Int):=by omega);have t:=zH (s.o U0);go_upto_region 11 with fail;go_region;go_wp2;go_roundw;case rel=>exact⟨k,U0,rfl,t.o,d.o⟩
          case measure=>simp[intOf]
 . (have B : ¬(W.length : Int) = (X.length : Int):=by omega);by_cases C:W.length<X.length
   . (have n:(W.length:Int)<(X.length:Int):=by omega);(have c:zK (cmpN (val BB W) (val BB X)=-1):=by show _=_;unfold cmpN;rw[if_pos (short_lt q.out r.out C)]);go_wp2;go_ret;exact⟨by rw[c.o];rfl,Below.refl _ _⟩
   . (have n:¬(W.length:Int)<(X.length:Int):=by omega);(have c:zK (cmpN (val BB W) (val BB X)=1):=by have:=short_lt r.out q.out U0;show _=_;unfold cmpN;rw[if_neg U0,if_pos this]);go_wp2;go_ret;exact⟨by rw[c.o];rfl,Below.refl _ _⟩
end Go.Proofs.YtflejelbdlelpaaGreat
namespace Go.Proofs.YtflejelbdlelpaaGreat
open Go.RowKit Go.ChangeShapes Go.WideShapes Go.Deep Go.ChangeAt Go.Proofs.Tryz
section
variable {H:Type} {enc:TypeId × Value->H} {P:Program}
theorem post_of_below{f:Func}{s:ChangeSpec}{o B q A:Bool}{W C:Wo}{args:Array Value}{v:Value}{D E:List (DataW H)}{n pa pv:List MemPlace}(I:DataW.Whole enc P f.params.toList s.vars o W args.toList D E n)(z:∀ (b:Nat)(sp:Nat->Bool)(hd:Bool),DataW.TrodAll enc P C b sp hd f.resultTypes.toList (v.resultList f.resultTypes.size) (s.fn H (D++E)).results [])(u:∀ sp:Nat->Bool,(∀ p∈n,sp p.block=true)->DataW.TrodAll enc P C 0 sp true f.params.toList args.toList (s.fn H (D++E)).args pa)(x:∀ sp:Nat->Bool,(∀ p∈n,sp p.block=true)->DataW.TrodVars enc P C sp s.vars (s.fn H (D++E)).vars pv)(y:n=pa++pv)(K:zB W C)(J:∀ (j:Nat)(t:TypeId)(r:Value),f.resultTypes[j]?=some t->(v.resultList f.resultTypes.size)[j]?=some r->Value.okWide P C .any 0 t r):
 s.post enc P f o B q A W args v C:=by
 have h:=fun p c=>I.lt p c;have d:∀p∈n,(fun b=>decide (b<W.heap.size)) p.block=true:=fun p c=>by simpa using h p c
 refine⟨D,E,n,[],pa,pv,I,z _ _ _,u _ d,x _ d,World.keptBut_mono (fun p c=>⟨c,?_⟩) (K.frame (·∈n)),fun _=>?_⟩
 . rw[y,List.mem_append] at c;exact Or.inr c
 . obtain⟨_,_,_,_,_,m,l⟩:=I;refine⟨J,_,_,([]++pa)++pv,⟨[]++pa,pv,trodAll_append (u _ (fun _ _=>rfl)) (z _ _ _),x _ (fun _ _=>rfl),rfl,?_,?_⟩,?_⟩
   . intro b i c;(have g:MemPlace.cell b i∈n:=by rw[y];simpa using c);rw[K.frozen (h _ g)];exact m b i g
   . intro k;have:=l k;rw[y] at this;simpa using this
   . intro p c _;rw[y];simpa using c
end
theorem own:ownKnob prog.godebug=none:=U1
theorem laidOut:laidOutB prog=true:=U1
section
variable {H:Type} {enc:TypeId × Value->H} {w:Wo} {base:Nat} {spare:Nat->Bool} {held:Bool}
theorem cellsInt:prog.cellsOf 3=1:=U1
theorem cellsInts:prog.cellsOf 22=1:=U1
theorem cellsRows:prog.cellsOf 25=1:=U1
theorem cellsField:prog.cellsOf 24=3:=U1
theorem qdQ{a:Addr}{v:Value}(h:w.cell? a=some v):a=(zA a.block a.off):=by
 obtain⟨b,o,s⟩:=a;cases s with
 |none=>rfl
 |some s=>unfold World.cell? at h;split at h<;>simp at h
theorem qbT{d:Nat}{c:Value}{x:DataW H × List MemPlace}(h:DataW.trod enc prog w base spare held d 3 [c]=some x):∃n,c=Y n:=by obtain⟨n,b,_,_⟩:=DataW.trod_int underlying3 h;exact⟨n,by simpa using b⟩
theorem ints_cell{v:Nat}{c:Value}{x:DataW H × List MemPlace}(h:DataW.trod enc prog w base spare held v 22 [c]=some x):
 ∃(zs:LI)(A:OA)(k:Nat),c=zL A zs.length k/\zs.length<=maxLen/\zI w A zs:=by
 rcases open_slice1 underlying22 cellsInt h with⟨b,_⟩|⟨a,len,cap,m,n,V,D,s,g,_,t,u,l,_,o⟩
 . exact⟨[],none,0,by simpa using b,U2,fun h=>absurd h U2⟩
 . (have r:len<=m:=by rw[l];split<;>omega);have p:∀i,i<len->∃z,V i=Y z:=fun i hi=>qbT (o i U0).2;refine⟨(List.range len).map fun i=>intOf (V i),some a,cap,by simpa using g,so,fun hz=>?_⟩;simp only[List.length_map,List.length_range] at hz ⊢;have b:=(o 0 U0).1;have q:a.add 0=a:=rfl;rw[q] at b;refine⟨a.block,a.off,congrArg some (qdQ b),World.block_lt_of_cell? w _ b,fun j hj=>?_⟩;have f:=(o j U0).1;obtain⟨z,e⟩:=p j hj;(have d:a.add j=(zA a.block (a.off+j)):=by rw[qdQ b];exact Addr.add_mid _ _ _);rw[d] at f;rw[f,e];simp[List.getD,hj,e,intOf]
theorem rows_cell{I:Nat}{c:Value}{x:DataW H × List MemPlace}(h:DataW.trod enc prog w base spare held I 25 [c]=some x):
 ∃(zs:List LI)(A:OA)(k:Nat),c=zL A zs.length k/\zs.length<=maxLen/\zs.length<=k/\zR w A zs:=by
 rcases open_slice1 underlying25 cellsInts h with⟨b,_⟩|⟨a,len,cap,m,n,V,D,B,p,_,C,E,q,_,r⟩
 . exact⟨[],none,0,by simpa using b,U2,U2,fun h=>absurd h U2⟩
 . (have y : len <= m := by rw [q];split <;> omega);have o:∀ i,i<len->∃ (zs:LI)(A:OA)(k:Nat),V i=zL A zs.length k/\zs.length<=maxLen/\zI w A zs:=fun i g=>ints_cell (r i U0).2
   obtain⟨f,u⟩:∃f:Nat->LI,∀i,i<len->∃(A:OA)(k:Nat),V i=zL A (f i).length k/\(f i).length<=maxLen/\zI w A (f i):=
    ⟨fun i=>if h:i<len then Classical.choose (o i h) else[],fun i g=>by simp only[g,dif_pos];exact Classical.choose_spec (o i g)⟩
   refine⟨(List.range len).map f,some a,cap,by simpa using p,so,so,fun hz=>?_⟩;simp only[List.length_map,List.length_range] at hz ⊢;have b:=(r 0 U0).1;have t:a.add 0=a:=rfl;rw[t] at b;refine⟨a.block,a.off,congrArg some (qdQ b),World.block_lt_of_cell? w _ b,fun j hj=>?_⟩;have l:=(r j U0).1;obtain⟨s,z,e,_,g⟩:=u j hj;(have d:a.add j=(zA a.block (a.off+j)):=by rw[qdQ b];exact Addr.add_mid _ _ _);rw[d] at l;(have v:((List.range len).map f).getD j []=f j:=by simp[List.getD,hj]);rw[v];exact⟨s,z,by rw[l,e],g⟩
theorem qaU{o:Nat}{t:TypeId}{r:Array Field}{cs:List Value}{x:DataW H × List MemPlace}(v:prog.underlying t=some (.struct r))(h:DataW.trod enc prog w base spare held o t cs=some x)(i:Nat)(q:TypeId)(p k:Nat)(s:(r[i]?).map (fun f=>(f.type,f.offset))=some (q,p))(u:prog.cellsOf q=k):
 ∃n y,n<o/\DataW.trod enc prog w base spare held n q ((cs.drop p).take k)=some y:=by obtain⟨j,n,m,_,_,d,g⟩:=DataW.trod_struct v h;obtain⟨f,b,c⟩:=Option.map_eq_some_iff.1 s;have l:=(Array.getElem?_eq_some_iff.1 b).1;simp only[Prod.mk.injEq] at c;obtain⟨rfl,rfl⟩:=c;subst u;exact⟨n,j[i]'U0,U0,by rw[g i f b,List.getElem?_eq_getElem]⟩
end
end Go.Proofs.YtflejelbdlelpaaGreat
