/- Parts of the proof. -/
import Derived.Test.YtocbdafcolbfeaaGreatR23
import Derived.Test.YtocbdafcolbfeaaGreatR26
set_option maxRecDepth 100000
set_option maxHeartbeats 8000000
namespace Go.Proofs.YtocbdafcolbfeaaGreat
open Go.RowKit Pln Go.Proofs.Tryz
theorem results_row_23{P:Program}{fn:Func}{p q r:Tmp}{j:TypeId}(h:fn.results=#[.cell p j,.cell q j,.tmp r])(tmps:Array Value)(w:Wo)(g l:Nat)(t s:TypeId)(cs i:Array Value)(fr k:Nat × Nat)(d:TypeDesc)(u:Value)(y:tmps.getD p undef=zP g)(z:tmps.getD q undef=zP l)(A:tmps.getD r undef=u)(v:w.heap[g]?=some (.cells cs t fr))(m:w.heap[l]?=some (.cells i s k))(o:P.underlying j=some d)(hd:(match d with|.struct _|.array _ _=>true|_=>false)=true)(x:(P.info? j).map (·.size)=some cs.size)(n:(P.info? j).map (·.size)=some i.size):
 (results fn tmps).run P w=.ok (.tuple #[.agg cs,.agg i,u]) w:=by
 have b:tmps[p]?.getD undef=zP g:=by simpa using y
 have c:tmps[q]?.getD undef=zP l:=by simpa using z
 have f:tmps[r]?.getD undef=u:=by simpa using A
 simp[results,h,b,c,f,asAddr,run_loadVar_row w g t j cs fr d v o hd x,run_loadVar_row w l s j i k d m o hd n]
structure BXT (w:Wo) (bs:List (List Value × TypeId)) (W:Wo):Prop where
 box:∀i cs t,bs[i]?=some (cs,t)->W.heap[w.heap.size+i]?=some (.cells cs.toArray t (0,0))
 below:zB w W
 size:w.heap.size+bs.length<=W.heap.size
section
variable {w W W':Wo} {bs:List (List Value × TypeId)}
theorem BXT.low(h:BXT w bs W){B:Nat}(b:Below B W W')(d:w.heap.size+bs.length<=B)(c:W.heap.size<=W'.heap.size):BXT w bs W':=
 ⟨fun i cs t hi=>(b.block _ (by have:=(List.getElem?_eq_some_iff.1 hi).1;omega)).trans (h.box i cs t hi),h.below.trans (b.mono U0),Nat.le_trans h.size c⟩
theorem BXT.grow(h:BXT w bs W)(b:zB W W'):BXT w bs W':=h.low b h.size b.size
theorem BXT.cell(h:BXT w bs W){i k:Nat}{cs:List Value}{t:TypeId}{v:Value}(b:bs[i]?=some (cs,t))(c:cs[k]?=some v):W.cell? (zA (w.heap.size+i) k)=some v:=by rw[cell_of_row W _ k _ _ _ (h.box i cs t b)];simpa using c
theorem BXT.range(h:BXT w bs W){i:Nat}{cs:List Value}{t:TypeId}(b:bs[i]?=some (cs,t)):W.rangeAt (w.heap.size+i) 0 cs:=qeS (h.box i cs t b)
theorem BXT.nil(w:Wo):BXT w [] w:=⟨fun i cs t hi=>by simp at hi,Below.refl _ _,U2⟩
theorem BXT.push(h:BXT w bs W)(f:W.heap.size=w.heap.size+bs.length)(cs:List Value)(t:TypeId):BXT w (bs++[(cs,t)]) (W.alloc (.cells cs.toArray t)):=by
 refine⟨fun i cs' t' hi=>?_,h.below.alloc U0 _,so⟩;by_cases c:i<bs.length
 . rw[List.getElem?_append_left c] at hi;exact(heap_alloc_old _ _ U0).trans (h.box i cs' t' hi)
 . (have b:i=bs.length:=by have:=(List.getElem?_eq_some_iff.1 hi).1;simp at this;omega);subst b;(have d:(cs,t)=(cs',t'):=by simpa using hi);injection d with e1 e2;subst e1 e2;exact alloc_at f _
theorem BXT.set(h:BXT w bs W)(i:Nat){c0:List Value}{t:TypeId}(d:bs[i]?=some (c0,t))(c:List Value):BXT w (bs.set i (c,t)) (W.setRow (w.heap.size+i) c.toArray):=by
 have b:=(List.getElem?_eq_some_iff.1 d).1;refine⟨fun j cs t2 hj=>?_,qaR h.below U0 _,by simpa using h.size⟩;by_cases e:j=i
 . subst e;rw[List.getElem?_set_self b] at hj;injection hj with hj;injection hj with e1 e2;rw[<- e1,<- e2];exact setRow_same _ _ _ _ _ (h.box j c0 t d)
 . rw[List.getElem?_set_ne (fun e2=>e e2.symm)] at hj;rw[setRow_other _ _ _ _ U0];exact h.box j cs t2 hj
end
def PairPost(w:Wo)(p m:Int)(mod:LI)(n:Nat)(ra rb:LL)(A B:OA)(ca cb:Nat)(e:Ending)(w':Wo):Prop :=
 (∃(g1 gb : Nat)(V1 VA : OA)(k1 ck : Nat),e = .returned (.tuple #[D5 g1 n A ra.length ca V1 ra.length k1,D5 gb n B rb.length cb VA rb.length ck,Y 0])/\
   GFUp w' w.heap.size gb p.toNat m.toNat (lOf p m mod) (logL (lOf p m mod) (p.toNat^m.toNat))/\IntsUp w' w.heap.size VA (nz (pivC p m mod n rb))/\GFUp w' w.heap.size g1 p.toNat m.toNat (lOf p m mod) (logL (lOf p m mod) (p.toNat^m.toNat))/\IntsUp w' w.heap.size V1 (nz (pivC p m mod n ra)))/\zB w w'
theorem pair_c(p m:Int)(mod:LI)(Am:OA)(cm n:Nat)(ra Z:LL)(A B:OA)(ca cb:Nat)(w:Wo)(hM:zI w Am mod)(hA:zR w A (nzs ra))(hB:zR w B (nzs Z))(aa:codeZ p m mod (n:Int) (nzs ra)=0)(ab:codeZ p m mod (n:Int) (nzs Z)=0):
 zC 181 #[C7 p m Am mod.length cm,Co n A ra.length ca,Co n B Z.length cb] w (PairPost w p m mod n ra Z A B ca cb):=by
 have u:zK (BXT w [((C5 p m Am mod.length cm),29),((Cn n A ra.length ca),54),((Cn n B Z.length cb),54),((D0 none),122),((D0 none),122)] (((((w.alloc (C3 p m Am mod.length cm)).alloc (Cb n A ra.length ca)).alloc (Cb n B Z.length cb)).alloc (Cj none)).alloc (Cj none))):=
  (((((BXT.nil w).push rfl (C5 p m Am mod.length cm) 29).push U2 (Cn n A ra.length ca) 54).push U2 (Cn n B Z.length cb) 54).push U2 (D0 none) 122).push U2 (D0 none) 122
 have H:=zH<|fun W hW=>sopenv_c p m mod Am cm n ra A ca W ((hM.keep hW).more hW.size) ((hA.keep hW).more hW.size) aa
 have I:=zH<|fun W hW=>sopenv_c p m mod Am cm n Z B cb W ((hM.keep hW).more hW.size) ((hB.keep hW).more hW.size) ab
 clear hM hA hB aa ab;go_enter func181,ntmps181;go_upto_region 1 with fail;generalize ((((w.alloc (C3 p m Am mod.length cm)).alloc (Cb n A ra.length ca)).alloc (Cb n B Z.length cb)).alloc (Cj none)).alloc (Cj none)=U at *;have d:zK (U.rangeAt w.heap.size 0 (C5 p m Am mod.length cm)):=u.o.range (i:=0) rfl;have f:=zH<|u.o.range (i:=1) rfl
 have v:=zH (H.o U u.o.below);clear H;go_wp2_with (first|(refine wpList_load_mid rfl 29 (.tmp 3) rfl w.heap.size 0 rfl (C5 p m Am mod.length cm) _ d.o underlying29 rfl fieldSize ?_)|(refine wpList_load_mid rfl 54 (.tmp 4) rfl (w.heap.size+1) 0 rfl (Cn n A ra.length ca) _ f.o underlying54 rfl matSize ?_));go_fit v.o;rintro e h ⟨⟨g1,V1,k1,rfl,q1,q2⟩,hb1⟩;have O:=u.o.size;simp only[List.length_cons,List.length_nil] at O;have y:zK (GFUp h (w.heap.size+5) g1 p.toNat m.toNat (lOf p m mod) (logL (lOf p m mod) (p.toNat^m.toNat))):=q1.lower U0;have J:zK (IntsUp h (w.heap.size+5) V1 (nz (pivC p m mod n ra))):=q2.lower U0;clear q1 q2 O;have r:=zH (u.o.grow hb1);clear hb1 u v d f;clear U;have j:zK (h.heap[w.heap.size+1+1+1]?=some (Cj none)):=r.o.box 3 _ _ rfl;have b:zK (BXT w [((C5 p m Am mod.length cm),29),((Cn n A ra.length ca),54),((Cn n B Z.length cb),54),((Ck g1 n A ra.length ca V1 ra.length k1),122),((D0 none),122)] (h.setRow (w.heap.size+1+1+1) (Ch g1 n A ra.length ca V1 ra.length k1))):=r.o.set 3 rfl (Ck g1 n A ra.length ca V1 ra.length k1);go_upto_region 3 with(refine wpList_store_row rfl 122 (.tmp 6) (.tmp 13) rfl h (w.heap.size+1+1+1) 122 (Cu none) (Ch g1 n A ra.length ca V1 ra.length k1) rfl rfl j.o viewSize rfl U3 ?_);have z:zK (GFUp (h.setRow (w.heap.size+1+1+1) (Ch g1 n A ra.length ca V1 ra.length k1)) (w.heap.size+5) g1 p.toNat m.toNat (lOf p m mod) (logL (lOf p m mod) (p.toNat^m.toNat))):=y.o.of_blocks U2 fun k hk _=>setRow_other h _ k _ U0;have K:zK (IntsUp (h.setRow (w.heap.size+1+1+1) (Ch g1 n A ra.length ca V1 ra.length k1)) (w.heap.size+5) V1 (nz (pivC p m mod n ra))):=J.o.of_blocks U2 fun k hk _=>setRow_other h _ k _ U0;clear j r y J;generalize h.setRow (w.heap.size+1+1+1) (Ch g1 n A ra.length ca V1 ra.length k1)=Q at *;have d:zK (Q.rangeAt w.heap.size 0 (C5 p m Am mod.length cm)):=b.o.range (i:=0) rfl;have f:zK (Q.rangeAt (w.heap.size+1+1) 0 (Cn n B Z.length cb)):=b.o.range (i:=2) rfl;have x:=zH (I.o Q b.o.below);clear I;go_wp2_with (first|(refine wpList_load_mid rfl 29 (.tmp 3) rfl w.heap.size 0 rfl (C5 p m Am mod.length cm) _ d.o underlying29 rfl fieldSize ?_)|(refine wpList_load_mid rfl 54 (.tmp 5) rfl (w.heap.size+1+1) 0 rfl (Cn n B Z.length cb) _ f.o underlying54 rfl matSize ?_));go_fit x.o;rintro e c ⟨⟨gb,VA,ck,rfl,hgf,hpv⟩,hb3⟩;have s:=zH (b.o.grow hb3);have C:=zH<|z.o.of_blocks hb3.size fun k _ hk=>hb3.block k hk
 have L:=zH<|K.o.grow hb3
 clear z K;have t:=b.o.size;simp only[List.length_cons,List.length_nil] at t;have q:=zH t;have D:=zH hgf;have M:=zH hpv;clear hb3 b x d f hgf hpv t;have l:zK (c.heap[w.heap.size+1+1+1+1]?=some (Cj none)):=s.o.box 4 _ _ rfl;have g:zK (BXT w [((C5 p m Am mod.length cm),29),((Cn n A ra.length ca),54),((Cn n B Z.length cb),54),((Ck g1 n A ra.length ca V1 ra.length k1),122),((Ck gb n B Z.length cb VA Z.length ck),122)] (c.setRow (w.heap.size+1+1+1+1) (Ch gb n B Z.length cb VA Z.length ck))):=s.o.set 4 rfl (Ck gb n B Z.length cb VA Z.length ck);have E:zK (GFUp (c.setRow (w.heap.size+1+1+1+1) (Ch gb n B Z.length cb VA Z.length ck)) Q.heap.size gb p.toNat m.toNat (lOf p m mod) (logL (lOf p m mod) (p.toNat^m.toNat))):=D.o.of_blocks U2 fun k hk _=>setRow_other c _ k _ (by have:=q.o;omega);have N:zK (IntsUp (c.setRow (w.heap.size+1+1+1+1) (Ch gb n B Z.length cb VA Z.length ck)) Q.heap.size VA (nz (pivC p m mod n Z))):=M.o.of_blocks U2 fun k hk _=>setRow_other c _ k _ (by have:=q.o;omega);go_upto_region 5 with(refine wpList_store_row rfl 122 (.tmp 7) (.tmp 21) rfl c (w.heap.size+1+1+1+1) 122 (Cu none) (Ch gb n B Z.length cb VA Z.length ck) rfl rfl l.o viewSize rfl U3 ?_);have S:zK (GFUp (c.setRow (w.heap.size+1+1+1+1) (Ch gb n B Z.length cb VA Z.length ck)) (w.heap.size+5) g1 p.toNat m.toNat (lOf p m mod) (logL (lOf p m mod) (p.toNat^m.toNat))):=C.o.of_blocks U2 fun k hk _=>setRow_other c _ k _ U0;have T:zK (IntsUp (c.setRow (w.heap.size+1+1+1+1) (Ch gb n B Z.length cb VA Z.length ck)) (w.heap.size+5) V1 (nz (pivC p m mod n ra))):=L.o.of_blocks U2 fun k hk _=>setRow_other c _ k _ U0;clear l s D M C L;generalize c.setRow (w.heap.size+1+1+1+1) (Ch gb n B Z.length cb VA Z.length ck)=R at *;have V:R.cell? (zA (w.heap.size+1) 0)=some (Y (n:Int)):=g.o.cell (i:=1) rfl rfl;have X:R.cell? (zA (w.heap.size+1+1) 0)=some (Y (n:Int)):=g.o.cell (i:=2) rfl rfl;have j:zK (R.heap[w.heap.size+1+1+1]?=some (Cr g1 n A ra.length ca V1 ra.length k1)):=g.o.box 3 _ _ rfl;have l:zK (R.heap[w.heap.size+1+1+1+1]?=some (Cr gb n B Z.length cb VA Z.length ck)):=g.o.box 4 _ _ rfl;go_wp2_with fail;refine bodyPost_ret (results_row_23 (P:=prog) rfl _ _ (w.heap.size+1+1+1) (w.heap.size+1+1+1+1) 122 122 (Ch g1 n A ra.length ca V1 ra.length k1) (Ch gb n B Z.length cb VA Z.length ck) (0,0) (0,0) _ _ rfl rfl rfl j.o l.o underlying122 rfl viewSize viewSize) rfl ?_;exact⟨⟨g1,gb,V1,VA,k1,ck,rfl,E.o.lower (by have:=q.o;omega),N.o.lower (by have:=q.o;omega),S.o.lower U0,T.o.lower U0⟩,g.o.below⟩
def InsPost(w:Wo)(q n:Nat)(O:Ops)(ra rb:LL)(e:Ending)(w':Wo):Prop:=
 (∃b:Bool,e=.returned (.tuple #[.bool b,Y 0])/\(b=true->∀r∈ra,∀h:Al.Fld q O,Al.InC h n rb (Al.wd h r)))/\zB w w'
theorem sinside_c(p m:Int)(mod:LI)(Am:OA)(cm n:Nat)(ra rb:LL)(A B:OA)(ca cb:Nat)(w:Wo)(hM:zI w Am mod)(hA:zR w A (nzs ra))(hB:zR w B (nzs rb))(aa:codeZ p m mod (n:Int) (nzs ra)=0)(ab:codeZ p m mod (n:Int) (nzs rb)=0):
 zC 131 #[C7 p m Am mod.length cm,Co n A ra.length ca,Co n B rb.length cb] w (InsPost w (p.toNat^m.toNat) n (opsT p.toNat m.toNat (lOf p m mod)) ra rb):=by
 have s:zK (BXT w [((C5 p m Am mod.length cm),29),((Cn n A ra.length ca),54),((Cn n B rb.length cb),54)] (((w.alloc (C3 p m Am mod.length cm)).alloc (Cb n A ra.length ca)).alloc (Cb n B rb.length cb))):=
  (((BXT.nil w).push rfl (C5 p m Am mod.length cm) 29).push U2 (Cn n A ra.length ca) 54).push U2 (Cn n B rb.length cb) 54
 obtain⟨X,Z,a3,S,a5,a6,_⟩:=qcI aa;obtain⟨_,_,_,b4,b5,_,_,_,T,J⟩:=qcI ab;have z:=zH<|fun W hW=>pair_c p m mod Am cm n ra rb A B ca cb W ((hM.keep hW).more hW.size) ((hA.keep hW).more hW.size) ((hB.keep hW).more hW.size) aa ab
 have R:zK (∀(gb b1:Nat)(VA:OA)(ck:Nat)(W:Wo),zB w W->GFAt W W.heap.size gb p.toNat m.toNat (lOf p m mod) (logL (lOf p m mod) (p.toNat^m.toNat))->zI W VA (nz (pivC p m mod n rb))->W.rangeAt b1 0 (Ck gb n B rb.length cb VA rb.length ck)->b1<W.heap.size->
  zC 102 #[zL A ra.length ca,.func (.func 182) #[] #[zP b1]] W fun e w'=>(∃b:Bool,e=.returned (.bool b)/\(b=false->∀i,i<(nzs ra).length->∀h:Al.Fld (p.toNat^m.toNat) (opsT p.toNat m.toNat (lOf p m mod)),Al.InC h n rb (Al.wd h (ra.getD i []))))/\zB W w'):=fun gb b1 VA ck W hW hG hV hr hb=>by
  have:=containsin_c (nzs ra) (fun i=>∀h:Al.Fld (p.toNat^m.toNat) (opsT p.toNat m.toNat (lOf p m mod)),Al.InC h n rb (Al.wd h (ra.getD i []))) A ca b1 W ((hA.keep hW).more hW.size) (by rw[nzs_len];omega) (fun k Ao co W2 hk hW2 hir=>by
   rw[nzs_len] at hk
   rw[nzs_getD] at hir ⊢
   have K:=S.row hk
   rw[qaA,K.1]
   have q:=hW.trans (hW2.mono hW.size)
   exact inside1_c gb p.toNat m.toNat (mdOf m mod) (lOf p m mod) n rb B cb (pivC p m mod n rb) VA ck (ra.getD k []) Ao co b1 W2 (field_ft X) ((hG.keep hW2).more hW2.size) ((hB.keep q).more q.size) b4 Z a3 ((hV.keep hW2).more hW2.size) T J U0 hir K (range_keep_v hr (hW2.block b1 hb)))
  rw[nzs_len] at this
  rw[nzs_len]
  exact this
 clear hM hA hB aa ab S b4 T J;go_enter func131,ntmps131;go_upto_region 1 with fail;generalize ((w.alloc (C3 p m Am mod.length cm)).alloc (Cb n A ra.length ca)).alloc (Cb n B rb.length cb)=O at *;have D:zK (O.rangeAt w.heap.size 0 (C5 p m Am mod.length cm)):=s.o.range (i:=0) rfl;have E:=zH<|s.o.range (i:=1) rfl
 have H:zK (O.rangeAt (w.heap.size+1+1) 0 (Cn n B rb.length cb)):=s.o.range (i:=2) rfl;have t:=zH (z.o O s.o.below);clear z;go_wp2_with (first|(refine wpList_load_mid rfl 29 (.tmp 3) rfl w.heap.size 0 rfl (C5 p m Am mod.length cm) _ D.o underlying29 rfl fieldSize ?_)|(refine wpList_load_mid rfl 54 (.tmp 4) rfl (w.heap.size+1) 0 rfl (Cn n A ra.length ca) _ E.o underlying54 rfl matSize ?_)|(refine wpList_load_mid rfl 54 (.tmp 5) rfl (w.heap.size+1+1) 0 rfl (Cn n B rb.length cb) _ H.o underlying54 rfl matSize ?_));go_fit t.o;rintro e c ⟨⟨g1,gb,V1,VA,k1,ck,rfl,hgf,hpv,_⟩,hb1⟩;have I:=zH (s.o.grow hb1)
 have L:zK (BXT c [((D0 none),122),((D0 none),122)] ((c.alloc (Cj none)).alloc (Cj none))):=
  ((BXT.nil c).push rfl (D0 none) 122).push U2 (D0 none) 122
 have v:=zH hgf.at_;have C:=zH (qcD hpv);clear hb1 s t D E H hgf hpv;obtain⟨Q,l⟩:∃Q,Q=(c.alloc (Cj none)).alloc (Cj none):=⟨_,rfl⟩;rw[<- l] at L;have x:zK (((c.alloc (Cj none)).alloc (Cj none)).heap[c.heap.size]?=some (Cj none)):=by show _=_;rw[<- l];exact L.o.box 0 _ _ rfl
 have j:zK (BXT c [((Ck g1 n A ra.length ca V1 ra.length k1),122),((D0 none),122)] (Q.setRow c.heap.size (Ch g1 n A ra.length ca V1 ra.length k1))):=L.o.set 0 rfl (Ck g1 n A ra.length ca V1 ra.length k1);rw[l] at j;clear l L;have y:=zH<|j.o.box 1 _ _ rfl
 have f:zK (BXT c [((Ck g1 n A ra.length ca V1 ra.length k1),122),((Ck gb n B rb.length cb VA rb.length ck),122)] ((((c.alloc (Cj none)).alloc (Cj none)).setRow c.heap.size (Ch g1 n A ra.length ca V1 ra.length k1)).setRow (c.heap.size+1) (Ch gb n B rb.length cb VA rb.length ck))):=j.o.set 1 rfl (Ck gb n B rb.length cb VA rb.length ck);clear j;go_upto_region 2 with(first|(refine wpList_store_row rfl 122 (.tmp 8) (.tmp 16) rfl _ c.heap.size 122 (Cu none) (Ch g1 n A ra.length ca V1 ra.length k1) rfl rfl x.o viewSize rfl U3 ?_)|(refine wpList_store_row rfl 122 (.tmp 9) (.tmp 17) rfl _ (c.heap.size+1) 122 (Cu none) (Ch gb n B rb.length cb VA rb.length ck) rfl rfl y.o viewSize rfl U3 ?_));generalize ((((c.alloc (Cj none)).alloc (Cj none)).setRow c.heap.size (Ch g1 n A ra.length ca V1 ra.length k1)).setRow (c.heap.size+1) (Ch gb n B rb.length cb VA rb.length ck))=V at *;have d:=zH (I.o.grow f.o.below);have y1:V.cell? (zA (w.heap.size+1) 1)=some (zL A ra.length ca):=d.o.cell (i:=1) rfl rfl;have P:=f.o.size;simp only[List.length_cons,List.length_nil] at P;have g:=f.o.below;have u:=zH (R.o gb (c.heap.size+1) VA ck V d.o.below ((v.o.keep g).more g.size) ((C.o.keep g).more g.size) (f.o.range (i:=1) rfl) U0);clear x y I R g v C f;go_wp2_with fail;go_fit u.o;rintro e w4 ⟨⟨b,rfl,hbb⟩,hb4⟩;have N:=zH hbb;have M:=zH (d.o.below.trans (hb4.mono d.o.below.size));clear hbb hb4 u y1 d;go_wp2;go_ret2;refine⟨⟨_,rfl,fun hb r hr=>?_⟩,M.o⟩;obtain⟨i,U,rfl⟩:=List.mem_iff_getElem.1 hr;have:=N.o (by simpa using hb) i (by rw[nzs_len];exact U);rwa [show ra.getD i []=ra[i] by simp[List.getD,U]] at this
theorem two_u(p m:Int)(mod:LI)(n:Nat)(Z X:Int)(V:LI)(n':Nat)(Am Bm:OA)(cm dm:Nat)(ga gb:List LI)(A B:OA)(ca cb:Nat)(w:Wo)(ha:CD.At ⟨p,m,mod,Am,cm,n,ga,A,ca⟩ w)(hb:CD.At ⟨Z,X,V,Bm,dm,n',gb,B,cb⟩ w):
 zC 130 #[C8 p m Am mod.length cm n A ga.length ca,C8 Z X Bm V.length dm n' B gb.length cb] w fun e w'=>(∃z:Int,e=.returned (Y z)/\(z=0 ↔ (p=Z/\m=X/\mod=V/\n=n')))/\zB w w':=by
 have y:zK (BXT w [((C2 p m Am mod.length cm n A ga.length ca),32),((C2 Z X Bm V.length dm n' B gb.length cb),32)] ((w.alloc (C4 p m Am mod.length cm n A ga.length ca)).alloc (C4 Z X Bm V.length dm n' B gb.length cb))):=
  ((BXT.nil w).push rfl (C2 p m Am mod.length cm n A ga.length ca) 32).push U2 (C2 Z X Bm V.length dm n' B gb.length cb) 32
 obtain⟨Q,_,_,R,_⟩:=qbW ha.z;obtain⟨S,_,_,b4,_⟩:=qbW hb.z;dsimp only at Q R S b4;have r:zK (∀W,zB w W->zC 27 #[C8 p m Am mod.length cm n A ga.length ca] W fun e w'=>e=.returned (Y 0)/\zB W w'):=fun W hW=>by have h:=ha.keep hW;have:=codecheck_c p m mod Am cm (n:Int) ga A ca W h.mod U0 h.gen U0;rw[h.z] at this;exact this
 have s:zK (∀W,zB w W->zC 27 #[C8 Z X Bm V.length dm n' B gb.length cb] W fun e w'=>e=.returned (Y 0)/\zB W w'):=fun W hW=>by have h:=hb.keep hW;have:=codecheck_c Z X V Bm dm (n':Int) gb B cb W h.mod U0 h.gen U0;rw[h.z] at this;exact this
 have D:zK (∀W,zB w W->zC 81 #[C7 p m Am mod.length cm,C7 Z X Bm V.length dm] W fun e w'=>e=.returned (.bool (decide (p=Z/\m=X/\mod=V)))/\zB W w'):=fun W hW=>
  psame_c p m Z X mod V Am Bm cm dm W (ha.keep hW).mod (hb.keep hW).mod U0
 clear ha hb;go_enter func130,ntmps130;go_upto_region 1 with fail;generalize (w.alloc (C4 p m Am mod.length cm n A ga.length ca)).alloc (C4 Z X Bm V.length dm n' B gb.length cb)=I at *;have t:zK (I.rangeAt w.heap.size 0 (C2 p m Am mod.length cm n A ga.length ca)):=y.o.range (i:=0) rfl;have l:=zH (r.o I y.o.below);go_wp2_with (refine wpList_load_mid rfl 32 (.tmp 2) rfl w.heap.size 0 rfl (C2 p m Am mod.length cm n A ga.length ca) _ t.o underlying32 rfl codeSz ?_);go_fit l.o;rintro e J ⟨rfl,hb1⟩;have g:=zH (y.o.grow hb1);clear hb1 y l t r;have u:zK (J.rangeAt (w.heap.size+1) 0 (C2 Z X Bm V.length dm n' B gb.length cb)):=g.o.range (i:=1) rfl;have q:=zH (s.o J g.o.below);go_wp2_with (refine wpList_load_mid rfl 32 (.tmp 3) rfl (w.heap.size+1) 0 rfl (C2 Z X Bm V.length dm n' B gb.length cb) _ u.o underlying32 rfl codeSz ?_);go_fit q.o;rintro e j ⟨rfl,hb2⟩;have b:=zH (g.o.grow hb2);clear hb2 g q u s;have K:j.cell? (zA w.heap.size 0)=some (Y p):=b.o.cell (i:=0) rfl rfl;have L:j.cell? (zA w.heap.size 1)=some (Y m):=b.o.cell (i:=0) rfl rfl;have M:j.cell? (zA w.heap.size 2)=some (zL Am mod.length cm):=b.o.cell (i:=0) rfl rfl;have N:j.cell? (zA (w.heap.size+1) 0)=some (Y Z):=b.o.cell (i:=1) rfl rfl;have O:j.cell? (zA (w.heap.size+1) 1)=some (Y X):=b.o.cell (i:=1) rfl rfl;have P:j.cell? (zA (w.heap.size+1) 2)=some (zL Bm V.length dm):=b.o.cell (i:=1) rfl rfl;have f:=D.o j b.o.below;by_cases k:p=Z/\m=X/\mod=V
 . rw[decide_eq_true k] at f;have c:=zH f;have v:=zH k;clear k f;go_wp2_with fail;go_fit c.o;rintro e H ⟨rfl,hb3⟩;have d:=zH (b.o.grow hb3);clear hb3 b c K L M N O P;have T:H.cell? (zA w.heap.size 3)=some (Y (n:Int)):=d.o.cell (i:=0) rfl rfl;have U:H.cell? (zA (w.heap.size+1) 3)=some (Y (n':Int)):=d.o.cell (i:=1) rfl rfl;by_cases x:n=n'
   . (have E:((n:Int) != (n':Int))=false:=by rw[x];exact bne_self_eq_false _);have C:=zH x;clear x;go_wp2;go_ret;exact⟨⟨0,rfl,fun _=>⟨v.o.1,v.o.2.1,v.o.2.2,C.o⟩,fun _=>rfl⟩,d.o.below⟩
   . have E:((n:Int) != (n':Int))=true:=bne_iff_ne.2 U0;have C:=zH x;clear x;go_wp2;go_ret;exact⟨⟨_,rfl,fun h=>absurd h dc,fun h=>absurd h.2.2.2 C.o⟩,d.o.below⟩
 . rw[decide_eq_false k] at f;have c:=zH f;have v:=zH k;clear k f;go_wp2_with fail;go_fit c.o;rintro e H ⟨rfl,hb3⟩;have d:=zH (b.o.grow hb3);clear hb3 b c K L M N O P;go_wp2;go_ret;exact⟨⟨_,rfl,fun h=>absurd h dc,fun h=>absurd ⟨h.1,h.2.1,h.2.2.1⟩ v.o⟩,d.o.below⟩
theorem two_c(p m:Int)(mod:LI)(n:Nat)(b c:OA)(d f:Nat)(g h:List LI)(A B:OA)(ca cb:Nat)(w:Wo)(i:CD.At ⟨p,m,mod,b,d,n,g,A,ca⟩ w)(j:CD.At ⟨p,m,mod,c,f,n,h,B,cb⟩ w):
 zC 130 #[C8 p m b mod.length d n A g.length ca,C8 p m c mod.length f n B h.length cb] w fun e w'=>e=.returned (Y 0)/\zB w w':=
 (two_u p m mod n p m mod n b c d f g h A B ca cb w i j).mono fun e _ ⟨⟨z,he,hz⟩,hB⟩=>⟨by rw[he,hz.2 ⟨rfl,rfl,rfl,rfl⟩],hB⟩
theorem cinside_c(p m:Int)(mod:LI)(n:Nat)(Q U:OA)(R V:Nat)(S T:List LI)(A B:OA)(ca cb:Nat)(w:Wo)(X:CD.At ⟨p,m,mod,Q,R,n,S,A,ca⟩ w)(Z:CD.At ⟨p,m,mod,U,V,n,T,B,cb⟩ w):
 zC 61 #[C8 p m Q mod.length R n A S.length ca,C8 p m U mod.length V n B T.length cb] w (InsPost w (p.toNat^m.toNat) n (opsT p.toNat m.toNat (lOf p m mod)) (natR S) (natR T)):=by
 have v:zK (BXT w [((C2 p m Q mod.length R n A S.length ca),32),((C2 p m U mod.length V n B T.length cb),32)] ((w.alloc (C4 p m Q mod.length R n A S.length ca)).alloc (C4 p m U mod.length V n B T.length cb))):=
  ((BXT.nil w).push rfl (C2 p m Q mod.length R n A S.length ca) 32).push U2 (C2 p m U mod.length V n B T.length cb) 32
 have u:=zH<|fun W hW=>two_c p m mod n Q U R V S T A B ca cb W (X.keep hW) (Z.keep hW)
 have r:zK (∀W,zB w W->zC 131 #[C7 p m Q mod.length R,Co n A S.length ca,Co n B T.length cb] W (InsPost W (p.toNat^m.toNat) n (opsT p.toNat m.toNat (lOf p m mod)) (natR S) (natR T))):=fun W hW=>by obtain⟨_,_,_,_,_,_,E⟩:=qbW X.z;obtain⟨_,_,_,_,_,_,H⟩:=qbW Z.z;dsimp only at E H;have I:=(X.keep hW);have K:=(Z.keep hW);have:=sinside_c p m mod Q R n (natR S) (natR T) A B ca cb W I.mod (by rw[E];exact I.gen) (by rw[H];exact K.gen) (by rw[E];exact I.z) (by rw[H];exact K.z);rw[natR_len,natR_len] at this;exact this
 have l:=zH<|fun W=>gen_c p m Q mod.length R (n:Int) A S.length ca W
 have q:=zH<|fun W=>gen_c p m U mod.length V (n:Int) B T.length cb W
 clear X Z;go_enter func61,ntmps61;go_upto_region 1 with fail;generalize (w.alloc (C4 p m Q mod.length R n A S.length ca)).alloc (C4 p m U mod.length V n B T.length cb)=J at *;have s:zK (J.rangeAt w.heap.size 0 (C2 p m Q mod.length R n A S.length ca)):=v.o.range (i:=0) rfl;have t:=zH<|v.o.range (i:=1) rfl
 have k:=zH (u.o J v.o.below);go_wp2_with (first|(refine wpList_load_mid rfl 32 (.tmp 2) rfl w.heap.size 0 rfl (C2 p m Q mod.length R n A S.length ca) _ s.o underlying32 rfl codeSz ?_)|(refine wpList_load_mid rfl 32 (.tmp 3) rfl (w.heap.size+1) 0 rfl (C2 p m U mod.length V n B T.length cb) _ t.o underlying32 rfl codeSz ?_));go_fit k.o;rintro e M ⟨rfl,hb1⟩;have D:=zH (v.o.grow hb1);clear hb1 v k s t u;have f:=zH<|D.o.grow zV.drew
 have C:zK (∀W,BXT w [((C2 p m Q mod.length R n A S.length ca),32),((C2 p m U mod.length V n B T.length cb),32)] W->W.rangeAt w.heap.size 0 (C5 p m Q mod.length R)):=fun W hW=>qbO (hW.range (i:=0) rfl) 0 _ (fun j hj=>by rcases j with _|_|_|j<;>first|rfl|(simp at hj;omega));go_upto_region 4 with fail;refine qaS 10 10 (BXT w [((C2 p m Q mod.length R n A S.length ca),32),((C2 p m U mod.length V n B T.length cb),32)]) [(1,0),(0,1),(0,2),(0,4),(2,3),(2,5),(2,6),(1,7),(1,8),(1,9)] default U1 U1 (fun _ _ d _ _ h=>by cases d<;>exact h) f.o ?_;generalize M.drew=L at *;simp only[List.map_cons,List.map_nil,List.getD_cons_zero,List.getD_cons_succ];apply qaM rfl
 . intro W;go_simp;rfl
 go_simp;refine qaT rfl 29 (.tmp 13) rfl w.heap.size 0 rfl (C5 p m Q mod.length R) _ C.o underlying29 rfl fieldSize ?_;go_simp;refine qaT rfl 32 (.tmp 2) rfl w.heap.size 0 rfl (C2 p m Q mod.length R n A S.length ca) _ (fun W hW=>hW.range (i:=0) rfl) underlying32 rfl codeSz ?_;go_simp;refine qaT rfl 32 (.tmp 3) rfl (w.heap.size+1) 0 rfl (C2 p m U mod.length V n B T.length cb) _ (fun W hW=>hW.range (i:=1) rfl) underlying32 rfl codeSz ?_;go_simp;apply qbE rfl
 . go_simp;exact⟨rfl,rfl⟩
 refine(l.o L).mono ?_;rintro e N ⟨rfl,hb2⟩;have g:=zH (f.o.grow hb2);refine⟨_,rfl,g.o,?_⟩;go_simp;clear hb2 f;apply qbE rfl
 . go_simp;exact⟨rfl,rfl⟩
 refine(q.o N).mono ?_;rintro e O ⟨rfl,hb3⟩;have c:=zH (g.o.grow hb3);refine⟨_,rfl,c.o,?_⟩;go_simp;clear hb3 g;apply qbE rfl
 . go_simp;exact⟨rfl,rfl⟩
 refine(r.o O c.o.below).mono ?_;rintro e P ⟨⟨b,rfl,hbb⟩,hb4⟩;have x:=zH (c.o.grow hb4);have y:=zH hbb;refine⟨_,rfl,x.o,?_⟩;go_simp;clear hb4 hbb c r l q
 iterate 3
  apply qaM rfl
  . intro W
    go_simp
    rfl
  go_simp
 refine qbH ?_;show wpList _ _ _ _ _ _;go_simp;go_wp2;go_ret2;exact⟨⟨b,rfl,y.o⟩,x.o.below⟩
end Go.Proofs.YtocbdafcolbfeaaGreat
namespace Go.Proofs.YtocbdafcolbfeaaGreat
open Go.RowKit Pln
theorem row_atE{w:Wo}{G:OA}{l:List LI}{q n:Nat}(h:zR w G l)(p:Grid q l.length n (natR l))(r:nzs (natR l)=l){j:Nat}(m:j<l.length):
 ∃(b o:Nat)(Ai:OA)(ci:Nat),G=some (zA b o)/\b<w.heap.size/\w.cell? (zA b (o+j))=some (zL Ai ((natR l).getD j []).length ci)/\zI w Ai (nz ((natR l).getD j []))/\(natR l).getD j []∈natR l/\Dv.Ok q n ((natR l).getD j []):=by
 rw[<- r] at h;obtain⟨b,o,Ai,ci,e,k,c,f⟩:=h.at_ (i:=j) (by rw[nzs_len,natR_len];exact m);rw[nzs_getD] at c f;rw[qaA] at c;have d:j<(natR l).length:=by rw[natR_len];exact m
 have g:(natR l).getD j []∈natR l:=by rw[show(natR l).getD j []=(natR l)[j] by simp[List.getD,d]];exact List.getElem_mem _
 exact⟨b,o,Ai,ci,e,k,c,f,g,p.2 _ g⟩
end Go.Proofs.YtocbdafcolbfeaaGreat
