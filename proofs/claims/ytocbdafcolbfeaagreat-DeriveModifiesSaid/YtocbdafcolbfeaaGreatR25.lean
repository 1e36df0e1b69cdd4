/- Parts of the proof. -/
import Derived.Test.YtocbdafcolbfeaaGreatR21
import Derived.Test.YtocbdafcolbfeaaGreatRows
import Derived.Deep.Slices
import Derived.ProofKit
import Derived.OpenShut
import Derived.Deep.DeepHandedRow
set_option maxRecDepth 100000
set_option maxHeartbeats 8000000
namespace Go.Proofs.YtocbdafcolbfeaaGreat
open Go.RowKit Pln Go.Proofs.Tryz
def RelFl(w:Wo)(n:Nat)(v3 v4 v5:Value)(wr:Wo):Prop:=∃(k:Nat)(b1 b2:Bool),k<=n/\v3=.bool b1/\v4=.bool b2/\v5=Y k/\zB w wr
def FlS(w:Wo)(b ok':Nat)(n:Int)(A:OA)(l c:Nat)(W:Wo):Prop:=zB w W/\W.cell? (zA b (ok'+4))=some (Y n)/\W.cell? (zA b (ok'+5))=some (zL A l c)
theorem few_c(ds:List StD)(A:OA)(c:Nat)(w:Wo)(hA:StsAt w w.heap.size A ds)(hk:∀ d∈ds,d.ok)(hl:ds.length<=maxLen):
 zC 6 #[zL A ds.length c] w (FewPost w ds.length):=by
 have D:=zH hA;have u:=zH (rfewD_c ds A c w hA hk);have q:maxLen=9223372036854775807:=rfl;rw[q] at hl;clear hA hk;go_enter func6,ntmps6;go_wp2_with fail;go_fit u.o;rintro e w1 ⟨b0,rfl,hb1,hl1⟩;have g:=zH hb1;have m:=zH hl1;clear hb1 u hl1;cases b0
 . go_wp2;go_ret;exact⟨_,rfl,g.o,fun h=>by cases h⟩
 go_wp2;go_loopw [3,4,5] (fun v3 v4 v5 wr=>RelFl w ds.length v3 v4 v5 wr) (fun _ _ v5 _=>ds.length-(intOf v5).toNat);case atStart=>exact⟨0,false,false,Nat.zero_le _,rfl,rfl,rfl,g.o⟩
 case round =>
  obtain⟨k,v,x,K,rfl,rfl,rfl,B⟩:=hrel;have l:=zH B;clear B g;by_cases j:k<ds.length
  . (have k0 : (0 : Int) <= (k : Int) := by omega);have k1:(k:Int)<(ds.length:Int):=U0;have L:IntKind.i64.wrap ((k:Int)+1)=(k:Int)+1:=IntWalk.i64_in _ U0;obtain ⟨b,o,I,rfl,J,f,r⟩:=(D.o.keep l.o).at_ j;generalize ds[k]'j=s at *;obtain ⟨P,t,O,M,N,Q,R,Ar,S,At,U,y,T,ca,cb,cp,V,X,H,Z,rfl,_⟩:=r;have y0:wr.cell? (zA b (o+k*23))=some (Y s.rule):=f 0 _ rfl;have E:zK (FlS w b (o+k*23) s.n t s.gen.length y wr.drew):=⟨l.o.drew,f 4 _ rfl,f 5 _ rfl⟩;clear f;generalize s.gen.length=z at *;generalize s.n=C at *;obtain ⟨e,he⟩:∃ e,IntKind.i64.wrap (C*(z:Int))=e:=⟨_,rfl⟩;cases v;(all_goals (cases x));(all_goals go_upto_region 8 with fail);(all_goals (refine qaD (FlS w b (o+k*23) C t z y) U1 U1 E.o ?_))
    all_goals
     repeat (first
      | (apply qaJ rfl
         . intro W i
           go_simp
           try rfl
         go_simp)
      | (apply qbD rfl
         . intro W i
           obtain⟨_,z4,z5⟩:=i
           go_simp
           try rfl
         go_simp)
      |(apply qbI rfl;go_simp))
     refine qaE ?_
     intro w2 i
     have p:=zH i.1
     clear i
     go_wp2
     go_roundw
     case rel=>exact⟨k+1,_,_,U0,rfl,rfl,gn,p.o⟩
     case measure=>simp[intOf];omega
  . (obtain rfl : k = ds.length := by omega);cases v <;> cases x
    all_goals
     go_wp2
     go_ret
     exact⟨_,rfl,l.o,fun _=>m.o (by first|trivial|rfl)⟩
end Go.Proofs.YtocbdafcolbfeaaGreat
namespace Go.Proofs.YtocbdafcolbfeaaGreat
open Go.RowKit Go.ChangeShapes Go.WideShapes Go.Deep Go.ChangeAt Go.Proofs.Tryz
section
variable {H:Type} {enc:TypeId × Value->H} {P:Program}
theorem post_of_below{f:Func}{s:ChangeSpec}{o B q A:Bool}{W C:Wo}{args:Array Value}{v:Value}{D E:List (DataW H)}{n pa pv:List MemPlace}(I:DataW.Whole enc P f.params.toList s.vars o W args.toList D E n)(z:∀ (b:Nat)(sp:Nat->Bool)(hd:Bool),DataW.TrodAll enc P C b sp hd f.resultTypes.toList (v.resultList f.resultTypes.size) (s.fn H (D++E)).results [])(u:∀ sp:Nat->Bool,(∀ p∈n,sp p.block=true)->DataW.TrodAll enc P C 0 sp true f.params.toList args.toList (s.fn H (D++E)).args pa)(x:∀ sp:Nat->Bool,(∀ p∈n,sp p.block=true)->DataW.TrodVars enc P C sp s.vars (s.fn H (D++E)).vars pv)(y:n=pa++pv)(K:zB W C)(J:∀ (j:Nat)(t:TypeId)(r:Value),f.resultTypes[j]?=some t->(v.resultList f.resultTypes.size)[j]?=some r->Value.okWide P C .any 0 t r):
 s.post enc P f o B q A W args v C:=by
 have h:=fun p c=>I.lt p c;have d:∀p∈n,(fun b=>decide (b<W.heap.size)) p.block=true:=fun p c=>by simpa using h p c
 refine⟨D,E,n,[],pa,pv,I,z _ _ _,u _ d,x _ d,World.keptBut_mono (fun p c=>⟨c,?_⟩) (K.frame (·∈n)),fun _=>?_⟩
 . rw[y,List.mem_append] at c;exact Or.inr c
 . obtain⟨_,_,_,_,_,m,l⟩:=I;refine⟨J,_,_,([]++pa)++pv,⟨[]++pa,pv,trodAll_append (u _ (fun _ _=>rfl)) (z _ _ _),x _ (fun _ _=>rfl),rfl,?_,?_⟩,?_⟩
   . intro b i c;(have g:MemPlace.cell b i∈n:=by rw[y];simpa using c);rw[K.frozen (h _ g)];exact m b i g
   . intro k;have:=l k;rw[y] at this;simpa using this
   . intro p c _;rw[y];simpa using c
end
theorem own:ownKnob prog.godebug=none:=U1
theorem laidOut:laidOutB prog=true:=U1
section
variable {H:Type} {enc:TypeId × Value->H} {w:Wo} {base:Nat} {spare:Nat->Bool} {held:Bool}
theorem cellsInt:prog.cellsOf 3=1:=U1
theorem cellsInts:prog.cellsOf 23=1:=U1
theorem cellsRows:prog.cellsOf 30=1:=U1
theorem cellsField:prog.cellsOf 29=3:=U1
theorem qdQ{a:Addr}{v:Value}(h:w.cell? a=some v):a=(zA a.block a.off):=by
 obtain⟨b,o,s⟩:=a;cases s with
 |none=>rfl
 |some s=>unfold World.cell? at h;split at h<;>simp at h
theorem qbT{d:Nat}{c:Value}{x:DataW H × List MemPlace}(h:DataW.trod enc prog w base spare held d 3 [c]=some x):∃n,c=Y n:=by obtain⟨n,b,_,_⟩:=DataW.trod_int underlying3 h;exact⟨n,by simpa using b⟩
theorem ints_cell{y:Nat}{c:Value}{x:DataW H × List MemPlace}(h:DataW.trod enc prog w base spare held y 23 [c]=some x):
 ∃(zs:LI)(A:OA)(k:Nat),c=zL A zs.length k/\zs.length<=maxLen/\zI w A zs:=by
 rcases open_slice1 underlying23 cellsInt h with⟨b,_⟩|⟨a,len,g,m,n,V,D,t,l,_,u,v,o,_,p⟩
 . exact⟨[],none,0,by simpa using b,U2,fun h=>absurd h U2⟩
 . (have s:len<=m:=by rw[o];split<;>omega);have q:∀i,i<len->∃z,V i=Y z:=fun i hi=>qbT (p i U0).2;refine⟨(List.range len).map fun i=>intOf (V i),some a,g,by simpa using l,so,fun hz=>?_⟩;simp only[List.length_map,List.length_range] at hz ⊢;have b:=(p 0 U0).1;have r:a.add 0=a:=rfl;rw[r] at b;refine⟨a.block,a.off,congrArg some (qdQ b),World.block_lt_of_cell? w _ b,fun j hj=>?_⟩;have f:=(p j U0).1;obtain⟨z,e⟩:=q j hj;(have d:a.add j=(zA a.block (a.off+j)):=by rw[qdQ b];exact Addr.add_mid _ _ _);rw[d] at f;rw[f,e];simp[List.getD,hj,e,intOf]
theorem rows_cell{J:Nat}{c:Value}{x:DataW H × List MemPlace}(h:DataW.trod enc prog w base spare held J 30 [c]=some x):
 ∃(zs:List LI)(A:OA)(k:Nat),c=zL A zs.length k/\zs.length<=maxLen/\zs.length<=k/\zR w A zs:=by
 rcases open_slice1 underlying30 cellsInts h with⟨b,_⟩|⟨a,len,p,m,n,V,D,C,q,_,E,I,r,_,s⟩
 . exact⟨[],none,0,by simpa using b,U2,U2,fun h=>absurd h U2⟩
 . (have z : len <= m := by rw [r];split <;> omega);have o:∀ i,i<len->∃ (zs:LI)(A:OA)(k:Nat),V i=zL A zs.length k/\zs.length<=maxLen/\zI w A zs:=fun i g=>ints_cell (s i U0).2
   obtain⟨f,v⟩:∃f:Nat->LI,∀i,i<len->∃(A:OA)(k:Nat),V i=zL A (f i).length k/\(f i).length<=maxLen/\zI w A (f i):=
    ⟨fun i=>if h:i<len then Classical.choose (o i h) else[],fun i g=>by simp only[g,dif_pos];exact Classical.choose_spec (o i g)⟩
   refine⟨(List.range len).map f,some a,p,by simpa using q,so,so,fun hz=>?_⟩;simp only[List.length_map,List.length_range] at hz ⊢;have b:=(s 0 U0).1;have u:a.add 0=a:=rfl;rw[u] at b;refine⟨a.block,a.off,congrArg some (qdQ b),World.block_lt_of_cell? w _ b,fun j hj=>?_⟩;have l:=(s j U0).1;obtain⟨t,B,e,_,g⟩:=v j hj;(have d:a.add j=(zA a.block (a.off+j)):=by rw[qdQ b];exact Addr.add_mid _ _ _);rw[d] at l;(have y:((List.range len).map f).getD j []=f j:=by simp[List.getD,hj]);rw[y];exact⟨t,B,by rw[l,e],g⟩
theorem qaU{o:Nat}{t:TypeId}{r:Array Field}{cs:List Value}{x:DataW H × List MemPlace}(v:prog.underlying t=some (.struct r))(h:DataW.trod enc prog w base spare held o t cs=some x)(i:Nat)(q:TypeId)(p k:Nat)(s:(r[i]?).map (fun f=>(f.type,f.offset))=some (q,p))(u:prog.cellsOf q=k):
 ∃n y,n<o/\DataW.trod enc prog w base spare held n q ((cs.drop p).take k)=some y:=by obtain⟨j,n,m,_,_,d,g⟩:=DataW.trod_struct v h;obtain⟨f,b,c⟩:=Option.map_eq_some_iff.1 s;have l:=(Array.getElem?_eq_some_iff.1 b).1;simp only[Prod.mk.injEq] at c;obtain⟨rfl,rfl⟩:=c;subst u;exact⟨n,j[i]'U0,U0,by rw[g i f b,List.getElem?_eq_getElem]⟩
end
end Go.Proofs.YtocbdafcolbfeaaGreat
