/- Parts of the proof. -/
import Derived.Test.YtocbdafcolbfeaaGreatR18
import Derived.Test.YtocbdafcolbfeaaGreatR17
import Derived.RangeFuncCalls
import Derived.RangeFuncBox
import Derived.OwnWalkIn
import Derived.TacticsInMore
import Derived.RangeFuncBound
import Derived.LoopNIn
import Derived.LoopIn
set_option maxRecDepth 100000
set_option maxHeartbeats 8000000
namespace Go.Proofs.YtocbdafcolbfeaaGreat
open Go.RowKit Pln Tryz
theorem run_copy_ints(D:TypeId)(C:Nat)(A:OA)(c:Nat)(zs:LI)(W:Wo)(E:zI W A zs)(H:zs.length<=1000000):
 ∃(A':OA)(c':Nat)(w':Wo),(Builtin.append_ #[23,23] D #[zS C 0 0,zL A zs.length c]).run prog W=.ok (zL A' zs.length c') w'/\IntsUp w' W.heap.size A' zs/\zB W w':=by
 obtain⟨y,s,p,q,r⟩:=qaF infoInt;by_cases t:zs.length=0
 . refine⟨some (zA C 0),0,W,?_,fun h=>absurd h U0,Below.refl _ _⟩;rw[t];cases A<;>simp[Builtin.append_,run_underlying underlying23,sizeOf,typeInfo,s,Builtin.lenOf,Builtin.firstCells,storeCells,loadCells,loadCellsFrom]
 . obtain⟨b,o,rfl,v,x⟩:=E U0;obtain⟨z,w',i,d,f⟩:=run_append_arg_grows (P:=prog) W 23 D 3 y _ 1 8 underlying23 s p q r rfl dc (zA C 0) 0 0 [] rfl (fun j u hj=>by simp at hj) (zA b o) zs.length c (zs.map (Value.int .i64)) U2 (IntsAt.news (B:=W.heap.size) (fun hz=>⟨b,o,rfl,v,x⟩)) U0 U4 U0;obtain⟨g,l,rfl,m,n⟩:=d.form U0;refine⟨some (zA g 0),l,w',by rw[i];simp,fun _=>⟨g,0,rfl,m,n,fun j hj=>?_⟩,⟨f.os,f.tape,f.output,f.size,fun k hk=>f.block k hk U2⟩⟩;have:=d.cells (g:=g) rfl j (Y (zs.getD j 0)) (by simp[List.getD,hj]);rw[Addr.add_mid] at this;exact this
theorem exec_append{P:Program}{o:Oper}{a:Act}(s x:Operand)(t:TypeId)(b:o.op=.call { callee:=.builtin .append,args:=#[s,x],argTypes:=#[t,t] }){v1 v2:Value}(c:a.eval s=v1)(d:a.eval x=v2){W w':Wo}{v:Value}(h:(Builtin.append_ #[t,t] o.type #[v1,v2]).run P W=.ok v w'):(execOp a.eval o).run P W=.ok (.value v) w':=by unfold execOp;simp only[b,resolve,invoke,builtin,Sem.run_bind,Sem.run_pure,Result.andThen_ok,List.map_toArray,List.map_cons,List.map_nil,c,d,h]
def B2(w:Wo)(cs:List Value)(t:TypeId)(ds:List Value)(u:TypeId)(W:Wo):Prop:=
 W.heap[w.heap.size]?=some (.cells cs.toArray t (0,0))/\W.heap[w.heap.size+1]?=some (.cells ds.toArray u (0,0))/\zB w W/\w.heap.size+1<W.heap.size
section
variable {w:Wo} {cs ds:List Value} {t u:TypeId} {W W':Wo}
theorem B2.grow(h:B2 w cs t ds u W)(g:zB W W'):B2 w cs t ds u W':=by obtain⟨c,d,f,b⟩:=h;exact⟨(g.block _ U0).trans c,(g.block _ b).trans d,f.trans (g.mono U0),Nat.lt_of_lt_of_le b g.size⟩
theorem B2.below(h:B2 w cs t ds u W):zB w W:=h.2.2.1
theorem B2.cell(h:B2 w cs t ds u W){k:Nat}{v:Value}(b:cs[k]?=some v):W.cell? (zA w.heap.size k)=some v:=by rw[cell_of_row W w.heap.size k _ _ _ h.1];simpa using b
theorem B2.range(h:B2 w cs t ds u W):W.rangeAt w.heap.size 0 cs:=qeS h.1
theorem B2.field{a b c:Value}{l:List Value}(h:B2 w (a :: b :: c :: l) t ds u W):W.rangeAt w.heap.size 0 [a,b,c]:=fun j v hv=>by
 match j,hv with
 |0,hv=>exact h.range 0 v hv
 |1,hv=>exact h.range 1 v hv
 |2,hv=>exact h.range 2 v hv
 |j+3,hv=>simp at hv
theorem B2.set(h:B2 w cs t ds u W)(b:List Value):B2 w cs t b u (W.setRow (w.heap.size+1) b.toArray):=
 ⟨(setRow_other W _ _ _ U0).trans h.1,setRow_same W _ _ _ _ h.2.1,qaR h.2.2.1 U0 _,by simpa using h.2.2.2⟩
end
theorem b2_new(w:Wo)(cs:List Value)(t:TypeId)(ds:List Value)(u:TypeId):B2 w cs t ds u ((w.alloc (.cells cs.toArray t)).alloc (.cells ds.toArray u)):=
 ⟨(Below.heap_alloc _ _ _ U2).trans (heap_alloc_new _ _),alloc_at U2 _,(zV.alloc zn _).alloc U2 _,U2⟩
def FieldPost(w:Wo)(p m:Int)(zs:LI)(e:Ending)(w':Wo):Prop:=
 (∃(A':OA)(c':Nat),e=.returned (C7 p m A' zs.length c')/\IntsUp w' w.heap.size A' zs)/\zB w w'
theorem rfield_c(p m:Int)(zs:LI)(A:OA)(c:Nat)(w:Wo)(M:zI w A zs)(N:zs.length<=1000000):
 zC 92 #[C7 p m A zs.length c] w (FieldPost w p m zs):=by
 have u:=zH (b2_new w (C5 p m A zs.length c) 29 [Y 0,Y 0,zL none 0 0] 29);have z:=zH M;clear M;go_enter func92,ntmps92;go_upto_region 1 with fail;generalize (w.alloc (C3 p m A zs.length c)).alloc (D2)=C at *;have j:=zH<|u.o.grow zV.drew
 have s:zK (∀W,B2 w (C5 p m A zs.length c) 29 [Y 0,Y 0,zL none 0 0] 29 W->W.cell? (zA w.heap.size 0)=some (Y p)/\W.cell? (zA w.heap.size 1)=some (Y m)/\W.cell? (zA w.heap.size 2)=some (zL A zs.length c)):=fun W h=>⟨h.cell rfl,h.cell rfl,h.cell rfl⟩;refine qaS 9 9 (B2 w (C5 p m A zs.length c) 29 [Y 0,Y 0,zL none 0 0] 29) [(1,0),(0,1),(1,2),(0,3),(1,5),(0,6),(2,4),(2,7),(1,8)] default U1 U1 (fun _ _ d _ _ h=>by cases d<;>exact h) j.o ?_;simp only[List.map_cons,List.map_nil,List.getD_cons_zero,List.getD_cons_succ];generalize C.drew=l at *;clear u
 iterate 3
  apply qaM rfl
  . intro W
    go_simp
    rfl
  go_simp
  apply qbF rfl
  . intro W E
    obtain⟨J,K,L⟩:=s.o W E
    go_simp
    rfl
  go_simp
 have b:zK (B2 w (C5 p m A zs.length c) 29 [Y 0,Y 0,zL none 0 0] 29 (l.alloc (.cells #[] 3))):=j.o.grow (zV.alloc zn _);apply qdM rfl (v:=zS l.heap.size 0 0) (w':=l.alloc (.cells #[] 3))
 . go_simp
 . exact b.o
 go_simp;generalize l.heap.size=D at *;generalize l.alloc (.cells #[] 3)=y at *;obtain⟨i,n,w',f,r,q⟩:=run_copy_ints 23 D A c zs y ((z.o.keep b.o.below).more b.o.below.size) N;have g:=zH (b.o.grow q);refine qdM rfl (exec_append (.tmp 7) (.tmp 9) 23 rfl rfl rfl f) g.o ?_;go_simp;have t:=zH r;clear f r q;apply qaM rfl
 . intro W;go_simp;rfl
 go_simp;refine qbH ?_;show wpList _ _ _ _ _ _;go_simp;have B:=zH g.o.2.1;have x:=zH (g.o.set (C5 p m i zs.length n));have H:=b.o.2.2.2;go_wp2_with (refine wpList_store_row rfl 29 (.tmp 2) (.tmp 11) rfl w' (w.heap.size+1) 29 #[Y 0,Y 0,zL none 0 0] (Db p m i zs.length n) rfl rfl B.o fieldSize rfl U3 ?_);refine bodyPost_ret (results_cell_row (P:=prog) rfl _ _ (w.heap.size+1) 29 (Db p m i zs.length n) (0,0) _ rfl x.o.2.1 underlying29 rfl fieldSize) rfl ?_;refine⟨⟨i,n,rfl,?_⟩,x.o.below⟩;have I:IntsUp (w'.setRow (w.heap.size+1) (Db p m i zs.length n)) y.heap.size i zs:=t.o.of_blocks U2 fun k hk _=>setRow_other w' (w.heap.size+1) k _ U0;exact I.lower U0
def MakePost(w:Wo)(p m:Int)(zs:LI)(cols:Nat)(e:Ending)(w':Wo):Prop:=
 (∃(A':OA)(c':Nat)(G:OA)(R:LL)(k:Nat),e=.returned (C8 p m A' zs.length c' cols G R.length k)/\IntsUp w' w.heap.size A' zs/\RowsUp w' w.heap.size G (nzs R)/\R.length<=256)/\zB w w'
theorem rmake_c(p m:Nat)(md:LN)(A:OA)(zs:LI)(c:Nat)(rows:LL)(L:OA)(c2 cols:Nat)(w:Wo)(Q:RFld p m md A zs.length w.heap.size w)(R:∃l,FT p m md l)(T:zI w A zs)(M:zs.length<=1000000)(K:Grid (p^m) rows.length cols rows)(N:zR w L (nzs rows))(U:1<=cols)(V:cols<=256)(S:rows.length<=256):
 zC 44 #[C7 p m A zs.length c,zL L rows.length c2,Y cols] w (MakePost w p m zs cols):=by
 have n:=zH (b2_new w (C5 p m A zs.length c) 29 (Cd) 32);have C:=zH T
 have h:=zH<|fun W hW=>
  rcanon_c p m md A zs.length c rows L c2 cols W ((Q.keep hW).more hW.size) R K ((N.keep hW).more hW.size) U V S
 have v:(canonM (refOps p m md) rows cols).length<=256:=by rw[canonM_len];exact Nat.le_trans (elGo_piv (O:=refOps p m md) rows cols).2 S
 clear Q R K N T;generalize (elGo (refOps p m md) rows cols).piv=J at *;generalize canonM (refOps p m md) rows cols=f at *;go_enter func44,ntmps44;go_upto_region 1 with fail;generalize (w.alloc (C3 p m A zs.length c)).alloc (Ca)=y at *;have d:=zH n.o.range;have g:=zH (h.o y n.o.below);go_wp2_with (refine wpList_load_mid rfl 29 (.tmp 3) rfl w.heap.size 0 rfl (C5 p m A zs.length c) _ d.o underlying29 rfl fieldSize ?_);go_fit g.o;rintro e z ⟨⟨A',ck,VA,c3,rfl,hra,_⟩,hb1⟩;have b:=zH (n.o.grow hb1);have t:=zH hra;have u:=zH n.o.2.2.2;clear hb1 hra g n d h;have d:=zH b.o.range;have i:=zH (rfield_c p m zs A c z ((C.o.keep b.o.below).more b.o.below.size) M);go_upto_region 2 with fail;go_wp2_with (refine wpList_load_mid rfl 29 (.tmp 3) rfl w.heap.size 0 rfl (C5 p m A zs.length c) _ d.o underlying29 rfl fieldSize ?_);go_fit i.o;rintro e r ⟨⟨B',c',rfl,hia⟩,hb2⟩;have q:=zH (b.o.grow hb2);have j:=zH (t.o.grow hb2);have s:=zH hia;have B:=zH q.o.2.1;have x:=zH (q.o.set (C2 p m B' zs.length c' cols A' f.length ck));clear hb2 hia i;go_wp2_with (refine wpList_store_row rfl 32 (.tmp 6) (.tmp 20) rfl r (w.heap.size+1) 32 (C6) (Cc p m B' zs.length c' cols A' f.length ck) rfl rfl B.o codeSize rfl U3 ?_);refine bodyPost_ret (results_cell_row (P:=prog) rfl _ _ (w.heap.size+1) 32 (Cc p m B' zs.length c' cols A' f.length ck) (0,0) _ rfl x.o.2.1 underlying32 rfl codeSize) rfl ?_;have D:=u.o;have E:=b.o.2.2.2;have H:IntsUp (r.setRow (w.heap.size+1) (Cc p m B' zs.length c' cols A' f.length ck)) z.heap.size B' zs:=s.o.of_blocks U2 fun k hk _=>setRow_other r (w.heap.size+1) k _ U0;have I:RowsUp (r.setRow (w.heap.size+1) (Cc p m B' zs.length c' cols A' f.length ck)) y.heap.size A' (nzs f):=j.o.of_blocks U2 fun k hk _=>setRow_other r (w.heap.size+1) k _ U0;exact⟨⟨B',c',A',f,ck,rfl,H.lower U0,I.lower U0,v⟩,x.o.below⟩
theorem qaP{P:Program}{ops:Array Oper}{rest:List Oper}{o:Oper}{a:Act}{w:Wo}{Q:Exit->Act->Wo->Prop}(b:o.guard=none)(s x:Operand)(t:TypeId)(c:o.op=.call { callee:=.builtin .append,args:=#[s,x],argTypes:=#[t,t] }){v1 v2 v:Value}{w':Wo}(f:a.eval s=v1)(g:a.eval x=v2)(d:(Builtin.append_ #[t,t] o.type #[v1,v2]).run P w=.ok v w')(h:wpList P ops Q rest (a.put o.dst v) w'):wpList P ops Q (o :: rest) a w:=
 wpList_plain b fun K hK=>by
  unfold Oper.wp execOp
  simp only[c,resolve,invoke,builtin,Sem.run_bind,Sem.run_pure,Result.andThen_ok,List.map_toArray,List.map_cons,List.map_nil,f,g,d]
  exact hK _ _ h
theorem clone_any(zs:LI)(A:OA)(c:Nat)(w:Wo)(p:zI w A zs)(q:zs.length<=1000000):
 zC 74 #[zL A zs.length c] w fun e w'=>(∃(A':OA)(c':Nat),e=.returned (zL A' zs.length c')/\IntsUp w' w.heap.size A' zs)/\zB w w':=by
 rcases Nat.eq_zero_or_pos zs.length with h0|h0
 . have l : zs = []:=List.length_eq_zero_iff.1 h0;subst l;have f:∀(W:Wo)(A':OA),IntsUp W w.heap.size A' []:=fun W A' h=>absurd h U2;clear p q h0;cases A with
   |none=>have k:∀(W:Wo),(binOp .eql 23 (zL none 0 c) (zL none 0 0)).run prog W=.ok (.bool true) W:=fun W=>Lib.run_eql_slice_nil W 23 3 none 0 c 0 0 underlying23;go_enter func74,ntmps74;go_wp2;go_ret;exact⟨⟨none,0,rfl,f _ _⟩,Below.refl _ _⟩
   |some ad=>have k:∀(W:Wo),(binOp .eql 23 (zL (some ad) 0 c) (zL none 0 0)).run prog W=.ok (.bool false) W:=fun W=>Lib.run_eql_slice_nil W 23 3 (some ad) 0 c 0 0 underlying23;have m:zK (zB w (w.alloc (.cells #[] 3))):=zV.alloc zn _;obtain⟨A',c',w',b,_,n⟩:=run_copy_ints 23 w.heap.size (some ad) c [] (w.alloc (.cells #[] 3)) (fun h=>absurd h U2) U2;have d:=zH b;have i:=zH (m.o.trans (n.mono m.o.size));clear b n;go_enter func74,ntmps74;go_wp2_with (at_builtin;refine qaP rfl (.tmp 5) (.tmp 6) 23 rfl rfl rfl d.o ?_);go_ret;exact⟨⟨A',c',rfl,f _ _⟩,i.o⟩
 . exact(qfO zs A c w p h0 q).mono fun e w' ⟨⟨g,c',h1,h2⟩,h3⟩=>⟨⟨_,c',h1,fun hz=>⟨g,0,rfl,h2.lt.1,h2.lt.2,fun j hj=>by rw[Nat.zero_add];exact h2.cell hj⟩⟩,h3⟩
theorem own_any(p m:Int)(mod:LI)(C:OA)(D:Nat)(w:Wo)(E:zI w C mod)(H:mod.length<=1000000):
 zC 201 #[C7 p m C mod.length D] w fun e w'=>(∃(A':OA)(c':Nat),e=.returned (C7 p m A' mod.length c')/\IntsUp w' w.heap.size A' mod)/\zB w w':=by
 have b:zK (zB w ((w.alloc (C3 p m C mod.length D)).alloc (D2))):=(zV.alloc zn _).alloc U2 _;have c:zK (w.heap.size+1<((w.alloc (C3 p m C mod.length D)).alloc (D2)).heap.size):=by show _ < _;simp
 have j:zK (((w.alloc (C3 p m C mod.length D)).alloc (D2)).heap[w.heap.size]?=some (.cells (C5 p m C mod.length D).toArray 29 (0,0))):=(heap_alloc_old _ _ U2).trans (heap_alloc_new _ _);have l:zK (((w.alloc (C3 p m C mod.length D)).alloc (D2)).heap[w.heap.size+1]?=some (D2)):=alloc_at U2 _;have s:=zH E;clear E;go_enter func201,ntmps201;go_wp2_with fail;generalize (w.alloc (C3 p m C mod.length D)).alloc (D2)=u at *;have r:=zH (clone_any mod C D u ((s.o.keep b.o).more b.o.size) H);go_fit r.o;rintro e d ⟨⟨A',c',rfl,hup⟩,hb1⟩;have h:=zH (b.o.trans (hb1.mono b.o.size));have f:=(hb1.block w.heap.size (by have:=c.o;omega)).trans j.o;have v:=(hb1.block (w.heap.size+1) c.o).trans l.o;have B:d.cell? (zA w.heap.size 2)=some (zL C mod.length D):=cell_of_row _ _ 2 _ _ _ f;have z:d.frozen? (zA w.heap.size 2)=false:=by simp[World.frozen?,f]
 have y:=zH (heap_set_same f 2 (zL A' mod.length c'));have t:=zH ((Below.heap_setCell d (zA w.heap.size 2) (zL A' mod.length c') (w.heap.size+1) (by show w.heap.size+1≠w.heap.size;omega)).trans v);have i:=zH (h.o.setCell (p:=(zA w.heap.size 2)) zn (zL A' mod.length c'));have A:=c.o;have x:zK (IntsUp (d.setCell (zA w.heap.size 2) (zL A' mod.length c')) u.heap.size A' mod):=hup.of_blocks U2 fun k hk _=>Below.heap_setCell d (zA w.heap.size 2) _ k (by show k≠w.heap.size;omega);clear hup hb1 f v r s;go_upto_region 2 with fail;generalize d.setCell (zA w.heap.size 2) (zL A' mod.length c')=g at *;clear B z;have q:zK (g.rangeAt w.heap.size 0 (C5 p m A' mod.length c')):=qeS y.out;have n:zK ((g.setRow (w.heap.size+1) (Db p m A' mod.length c')).heap[w.heap.size+1]?=some (C3 p m A' mod.length c')):=setRow_same _ _ _ _ _ t.out;go_wp2_with (first|(refine wpList_load_mid rfl 29 (.tmp 1) rfl w.heap.size 0 rfl (C5 p m A' mod.length c') _ q.o underlying29 rfl fieldSize ?_)|(refine wpList_store_row rfl 29 (.tmp 2) (.tmp 7) rfl g (w.heap.size+1) 29 #[Y 0,Y 0,zL none 0 0] (Db p m A' mod.length c') rfl rfl t.out fieldSize rfl U3 ?_));refine bodyPost_ret (results_cell_row (P:=prog) rfl _ _ (w.heap.size+1) 29 (Db p m A' mod.length c') (0,0) _ rfl n.o underlying29 rfl fieldSize) rfl ?_;refine⟨⟨A',c',rfl,?_⟩,qaR i.o U0 _⟩;exact(x.o.of_blocks U2 fun k hk _=>setRow_other g (w.heap.size+1) k _ U0).lower (by have:=b.o.size;omega)
def OfPostA(w:Wo)(p m:Int)(mod:LI)(cols:Int)(A:OA)(n c:Nat)(e:Ending)(w':Wo):Prop:=
 (∃(A':OA)(c':Nat),e=.returned (.tuple #[C8 p m A' mod.length c' cols A n c,Y 0])/\IntsUp w' w.heap.size A' mod)/\zB w w'
def NewPostA(w:Wo)(p m:Int)(mod:LI)(cols:Int)(rows:LL)(e:Ending)(w':Wo):Prop:=
 (∃(A':OA)(c':Nat)(R:OA)(k:Nat),e=.returned (.tuple #[C8 p m A' mod.length c' cols R rows.length k,Y 0])/\IntsUp w' (w.heap.size+1+1+1) A' mod/\RowsUp w' (w.heap.size+1+1+1) R (nzs rows))/\zB w w'
theorem of_any(p m:Int)(mod:LI)(C:OA)(D:Nat)(cols:Int)(A:OA)(n c:Nat)(w:Wo)(E:zI w C mod)(H:mod.length<=1000000):
 zC 157 #[C7 p m C mod.length D,Co cols A n c,Y 0] w (OfPostA w p m mod cols A n c):=by
 have f:zK (BoxC w (C5 p m C mod.length D) (Cn cols A n c) (Cd) (((w.alloc (C3 p m C mod.length D)).alloc (Cb cols A n c)).alloc (Ca))):=boxC w _ _ _;have v:=zH E;clear E;go_enter func157,ntmps157;go_upto_region 3 with fail;generalize ((w.alloc (C3 p m C mod.length D)).alloc (Cb cols A n c)).alloc (Ca)=b at *;have j:zK (∀W,LSt b W->W.rangeAt w.heap.size 0 (C5 p m C mod.length D)):=fun W i=>qeS (f.o.keep i).k0;have q:zK (∀W,LSt b W->W.cell? (zA (w.heap.size+1) 0)=some (Y cols)/\W.cell? (zA (w.heap.size+1) 1)=some (zL A n c)):=fun W i=>⟨cell_of_row _ _ 0 _ _ _ (f.o.keep i).k1,cell_of_row _ _ 1 _ _ _ (f.o.keep i).k1⟩;have g:zK (LSt b b.drew):=zV.drew
 have u:zK (zC 201 #[C7 p m C mod.length D] b.drew fun e w'=>(∃(A':OA)(c':Nat),e=.returned (C7 p m A' mod.length c')/\IntsUp w' b.heap.size A' mod)/\zB b w'):=
  (own_any p m mod C D b.drew (((v.o.keep f.o.below).keep (g.o.mono f.o.below.size)).more f.o.below.size) H).mono fun e w' ⟨h1,h2⟩=>⟨h1,g.o.trans h2⟩
 refine qbM 7 (LSt b) [(true,0),(true,2),(true,3),(true,4),(true,5),(false,1),(true,6)] default U1 U1 (fun _ _ d _ _ h=>by cases d<;>exact h) g.o ?_;simp only[List.map_cons,List.map_nil,List.getD_cons_zero,List.getD_cons_succ];refine qcS rfl 29 (.tmp 3) rfl w.heap.size 0 rfl (C5 p m C mod.length D) _ j.o underlying29 rfl fieldSize ?_;go_simp
 iterate 4
  apply qcH rfl
  . intro W i
    obtain⟨z,B⟩:=q.o W i
    go_simp
    rfl
  go_simp
 apply qcE rfl
 . go_simp;exact⟨rfl,rfl⟩
 with_reducible refine u.o.mono ?_
 rintro e t ⟨⟨A',c',rfl,hu⟩,hb1⟩;refine⟨_,rfl,hb1,?_⟩;go_simp;apply qcH rfl
 . intro W i;go_simp;rfl
 go_simp;refine qeJ ?_;have l:=zH (f.o.keep hb1);have r:=zH l.o.k2;have s:=zH (l.o.set (C2 p m A' mod.length c' cols A n c));have x:=zH hu;have y:=f.o.size;clear hu hb1;go_wp2_with (refine wpList_store_row rfl 32 (.tmp 6) (.tmp 18) rfl t (w.heap.size+1+1) 32 (C6) (Cc p m A' mod.length c' cols A n c) rfl rfl r.o codeSize rfl U3 ?_);refine bodyPost_ret (results_row_one (P:=prog) rfl _ _ (w.heap.size+1+1) 32 (Cc p m A' mod.length c' cols A n c) (0,0) _ _ rfl rfl s.o.k2 underlying32 rfl codeSize) rfl ?_;refine⟨⟨A',c',rfl,?_⟩,s.o.below⟩;exact(x.o.of_blocks U2 fun k hk _=>setRow_other t (w.heap.size+1+1) k _ U0).lower U0
theorem ker_T:kerM (opsT 2 1 lT) [[1,1,1]] 3=[[1,0,1],[0,1,1]]:=U1
theorem err_T:errC 2 1 [] 3 [[1,1,1]]=0:=U1
def LSkA(a w:Wo):Prop:=zB a w
def RelDuA(n:Nat)(K:LL)(w1:Wo)(v5 v6:Value)(wx:Wo):Prop:=
 ∃(b:Nat)(A':OA)(c':Nat),v5=zP b/\v6=Y 0/\wx.heap[b]?=some (.cells (Cn n A' K.length c').toArray 54 (0,0))/\RowsUp wx w1.heap.size A' (nzs K)/\zB w1 wx
def DuaAll(p m:Int)(mod:LI)(n:Nat)(K:LL)(w:Wo)(e:Ending)(w':Wo):Prop:=
 (∃(A2:OA)(c2:Nat)(A':OA)(c':Nat),e=.returned (.tuple #[C8 p m A2 mod.length c2 n A' K.length c',Y 0])/\RowsUp w' w.heap.size A' (nzs K)/\IntsUp w' w.heap.size A2 mod)/\zB w w'
theorem dual_all(p m:Int)(mod:LI)(Am:OA)(cm n:Nat)(rows:LL)(A:OA)(c:Nat)(K:LL)(w:Wo)(hM:zI w Am mod)(hl:mod.length<=1000000)(hG:zR w A (nzs rows))(al:rows.length<=1000000)(hz:codeZ p m mod (n:Int) (nzs rows)=0)(ak:1<=n)(aj:errC p m mod (n:Int) (nzs rows)=0)(hK:kerM (opsT p.toNat m.toNat (lOf p m mod)) rows n=K):
 zC 98 #[C8 p m Am mod.length cm n A rows.length c] w (DuaAll p m mod n K w):=by
 have t:=zH (b2_new w (C2 p m Am mod.length cm n A rows.length c) 32 (Cd) 32);have U:=zH hG;have Q:=zH hM;have HZ:=zH hz;have HE:=zH aj;have B:=zH hK;clear hG hM hz aj hK;go_enter func98,ntmps98;go_upto_region 1 with fail;generalize (w.alloc (C4 p m Am mod.length cm n A rows.length c)).alloc (Ca)=L at *;have l:=zH t.o.range;have y:zK (zC 27 #[C8 p m Am mod.length cm n A rows.length c] L fun e w'=>e=.returned (Y 0)/\zB L w'):=by have h:=codecheck_c p m mod Am cm n (nzs rows) A c L ((Q.o.keep t.o.below).more t.o.below.size) U0 ((U.o.keep t.o.below).more t.o.below.size) (by rw[nzs_len];omega);rw[HZ.o,nzs_len] at h;exact h
 go_wp2_with (refine wpList_load_mid rfl 32 (.tmp 1) rfl w.heap.size 0 rfl (C2 p m Am mod.length cm n A rows.length c) _ l.o underlying32 rfl codeSize ?_);go_fit y.o;rintro e j ⟨rfl,hb1⟩;have g:=zH (t.o.grow hb1);clear hb1 y t l;clear L;have C:zK (∀W,LSkA j W->W.rangeAt w.heap.size 0 (C2 p m Am mod.length cm n A rows.length c)):=fun W hW=>(g.o.grow hW).range;have D:zK (∀W,LSkA j W->W.rangeAt w.heap.size 0 (C5 p m Am mod.length cm)):=fun W hW=>(g.o.grow hW).field;have I:zK (LSkA j j.drew):=zV.drew;have s:zK (∀W,LSkA j W->zC 156 #[C7 p m Am mod.length cm,Co n A rows.length c] W fun e w'=>(∃(f:OA)(i:Nat),e=.returned (.tuple #[Co n f K.length i,Y 0])/\RowsUp w' W.heap.size f (nzs K))/\zB W w'):=fun W hW=>by have h:=kernel_c p m mod Am cm n rows A c W ((((Q.o.keep g.o.below).more g.o.below.size).keep hW).more (Below.size hW)) U0 ((((U.o.keep g.o.below).more g.o.below.size).keep hW).more (Below.size hW)) ak HE.o;rw[B.o] at h;exact h
 go_upto_region 4 with fail;go_cut [5,6] (fun v5 v6 wx=>RelDuA n K j v5 v6 wx);case first =>
  refine wp_region_mixx 10 9 8 (LSkA j) [(1,0),(0,1),(0,2),(2,3),(2,4),(1,5),(1,6),(1,7)] [(3,9)] default _ (Cq) U1 U1 (fun _ _ d _ _ h=>by cases d<;>exact h) rfl rfl ?_ (fun W hW=>Below.alloc hW (Below.size hW) _) I.o ?_
  . intro a w;unfold ptrTo;go_simp
  simp only[List.map_cons,List.map_nil,List.getD_cons_zero,List.getD_cons_succ];apply x_free rfl
  . intro W;go_simp;rfl
  go_simp;refine x_load_mid rfl 29 (.tmp 14) rfl w.heap.size 0 rfl (C5 p m Am mod.length cm) _ D.o underlying29 rfl fieldSize ?_;go_simp;refine x_load_mid rfl 32 (.tmp 1) rfl w.heap.size 0 rfl (C2 p m Am mod.length cm n A rows.length c) _ C.o underlying32 rfl codeSize ?_;go_simp;apply x_call rfl
  . intro W;go_simp;exact⟨rfl,rfl⟩
  intro W1 af M;with_reducible refine(gen_c p m Am mod.length cm n A rows.length c W1).mono ?_
  rintro e x ⟨rfl,hb2⟩;refine⟨_,rfl,Below.trans M (hb2.mono (Below.size M)),hb2,?_⟩;go_simp;apply x_call rfl
  . intro W;go_simp;exact⟨rfl,rfl⟩
  intro W3 ag r;have z:=zH (s.o W3 r);with_reducible refine z.o.mono ?_
  rintro e w4 ⟨⟨f,i,rfl,hr4⟩,hb4⟩;refine⟨_,rfl,Below.trans r (hb4.mono (Below.size r)),hb4,?_⟩;go_simp
  iterate 3
   apply x_free rfl
   . intro W
     go_simp
     rfl
   go_simp
  refine x_nil ?_;intro W7 b u N O hF v;have ae:j.heap.size<=W3.heap.size:=Below.size r;have ac:¬(W3.heap.size<=b/\b<w4.heap.size):=fun h=>hF (.inr h)
  have ab:zK (RowsUp (W7.setRow b (Cz n f K.length i)) j.heap.size f (nzs K)):=
   (hr4.of_blocks (by simpa using u.size) (fun k hk1 hk2=>by rw[setRow_other _ _ _ _ U0,u.block k hk2])).lower ae
  have X:zK ((W7.setRow b (Cz n f K.length i)).heap[b]?=some (.cells (Cn n f K.length i).toArray 54 (0,0))):=setRow_same _ _ _ _ _ v;have S:zK (zB j (W7.setRow b (Cz n f K.length i))):=qaR N O _;unfold ptrTo;refine qcA rfl 54 (.tmp 5) (.tmp 19) rfl b 54 (Cv) (Cz n f K.length i) rfl rfl v matSize rfl U3 ?_;go_simp;refine qbH ?_;show wpList _ _ _ _ _ _;clear hr4 hb4 u N O hF v ac z;go_wp2;go_meet;exact⟨b,f,i,rfl,rfl,X.o,ab.o,S.o⟩
 case rest=>
  obtain⟨b,f,i,rfl,rfl,R,hr,hb⟩:=hcut;have q:=zH (g.o.grow hb);have H:=zH hr;have T:=zH hb.size;have l:=zH q.o.field;have E:zK (wc.rangeAt b 0 (Cn n f K.length i)):=qeS R;have ad:w.heap.size<=j.heap.size:=g.o.below.size;have ai:w.heap.size+1<j.heap.size:=g.o.2.2.2;have Z:=zH (of_any p m mod Am cm (n:Int) f K.length i wc ((Q.o.keep q.o.below).more q.o.below.size) hl);clear R hr hb g C D I s
  go_wp2_with (first
   |(refine wpList_load_mid rfl 29 (.tmp 21) rfl w.heap.size 0 rfl (C5 p m Am mod.length cm) _ l.o underlying29 rfl fieldSize ?_)
   |(refine wpList_load_mid rfl 54 (.tmp 5) rfl b 0 rfl (Cn n f K.length i) _ E.o underlying54 rfl matSize ?_))
  clear Q HZ HE B U;go_fit Z.o;rintro e x ⟨⟨A2,c2,rfl,hi2⟩,hb2⟩;have V:=zH hi2;have J:=zH (q.o.grow hb2);have aa:=zH (H.o.grow hb2);have HK:=zH J.o.2.1;have HY:=zH (J.o.set (C2 p m A2 mod.length c2 n f K.length i));clear hi2 hb2 q H l E;go_wp2_with (refine wpList_store_row rfl 32 (.tmp 2) (.tmp 26) rfl x (w.heap.size+1) 32 (C6) (Cc p m A2 mod.length c2 n f K.length i) rfl rfl HK.o codeSize rfl U3 ?_);refine bodyPost_ret (results_row_one (P:=prog) rfl _ _ (w.heap.size+1) 32 (Cc p m A2 mod.length c2 n f K.length i) (0,0) _ _ rfl rfl HY.o.2.1 underlying32 rfl codeSize) rfl ?_;have hv:RowsUp (x.setRow (w.heap.size+1) (Cc p m A2 mod.length c2 n f K.length i)) j.heap.size f (nzs K):=aa.o.of_blocks U2 fun k R _=>setRow_other x (w.heap.size+1) k _ U0;have ah:j.heap.size<=wc.heap.size:=T.o;have hi:IntsUp (x.setRow (w.heap.size+1) (Cc p m A2 mod.length c2 n f K.length i)) wc.heap.size A2 mod:=V.o.of_blocks U2 fun k R _=>setRow_other x (w.heap.size+1) k _ U0;exact⟨⟨A2,c2,f,i,rfl,hv.lower ad,hi.lower U0⟩,HY.o.below⟩
theorem dual_rep(G:Nat)(w:Wo)(b:zR w (zO G) [[1,1,1]]):
 zC 98 #[Cy 2 1 3 G 1 1] w fun e w'=>
  (∃(A2:OA)(c2:Nat)(A':OA)(c':Nat),e=.returned (.tuple #[C8 2 1 A2 0 c2 3 A' 2 c',Y 0])/\RowsUp w' w.heap.size A' [[1,0,1],[0,1,1]])/\zB w w':=
 (dual_all 2 1 [] none 0 3 [[1,1,1]] (zO G) 1 [[1,0,1],[0,1,1]] w (fun h=>absurd h U2) U2 b U2 codeZ_rep U0 err_T ker_T).mono fun _ _ ⟨⟨A2,c2,A',c',h1,h2,_⟩,hb⟩=>⟨⟨A2,c2,A',c',h1,h2⟩,hb⟩
theorem columns2_c(o c:LI)(f d:OA)(i cc h:Nat)(W:Wo)(k:zI W f o)(l:W.cell? (zA h 0)=some (zL d c.length cc))(j:zI W d c)(m:o.length<=1000)(g:o≠c):
 zC 103 #[zL f o.length i,zP h] W (Quiet (.bool false) W):=by have b:=zH (sequal_c o c f d i cc W k j U0);rw[decide_eq_false g] at b;clear k j;go_enter func103,ntmps103;go_wp2_with fail;refine b.o.mono ?_;rintro e w' ⟨rfl,n,rfl⟩;go_wp2;go_ret;exact⟨rfl,n,rfl⟩
def RelFar(w:Wo)(n:Nat)(v8:Value)(wr:Wo):Prop:=∃k m:Nat,k<=n/\v8=Y k/\wr=w.drewN m
theorem indexfar_c(R:List LI)(D:LI)(A H:OA)(c cc E:Nat)(w:Wo)(I:zR w A R)(J:w.cell? (zA E 0)=some (zL H D.length cc))(K:zI w H D)(M:R.length<=1000)(L:∀ o∈R,o.length<=1000/\o≠D):
 zC 159 #[zL A R.length c,.func (.func 103) #[] #[zP E]] w (Quiet (Y (-1)) w):=by
 have p:=zH I;have s:zK (∀(m k:Nat)(Ao:OA)(co:Nat),k<R.length->zI w Ao (R.getD k [])->zC 103 #[zL Ao (R.getD k []).length co,zP E] (w.drewN m) (Quiet (.bool false) (w.drewN m))):=fun m k Ao co h ho=>by
  have v:R.getD k []∈R:=by(have:R.getD k []=R[k]:=by simp[List.getD,h]);rw[this];exact List.getElem_mem h
  obtain⟨t,u⟩:=L _ v;exact columns2_c (R.getD k []) D Ao H co cc E (w.drewN m) (ho.keep (qaB zV m)) J (K.keep (qaB zV m)) t u
 clear I J K L;go_enter func159,ntmps159;go_wp2;go_loopw [8] (fun v8 wr=>RelFar w R.length v8 wr) (fun v8 _=>R.length-(intOf v8).toNat);case atStart=>exact⟨0,0,U0,rfl,rfl⟩
 case round =>
  obtain⟨k,m,h,rfl,rfl⟩:=hrel;by_cases g:k<R.length
  . obtain⟨b,o,j,l,rfl,y,d,f⟩:=p.o.at_ (i:=k) g;have C:(w.drewN m).cell? (zA b (o+k))=some (zL j (R.getD k []).length l):=d;have q:=zH (s.o m k j l g f);have z:(0:Int)<=(k:Int):=U0;have B:(k:Int)<(R.length:Int):=U0;have x:IntKind.i64.wrap ((k:Int)+1)=(k:Int)+1:=IntWalk.i64_in _ U0;clear d f;generalize R.getD k []=r at *;go_wp2_with fail;refine q.o.mono ?_;rintro e w' ⟨rfl,n,rfl⟩;go_wp2;go_roundw;case rel=>exact⟨k+1,m+n,U0,gn,df⟩
    case measure=>simp[intOf];omega
  . (obtain rfl:k=R.length:=by omega);go_wp2;go_ret;exact⟨rfl,m,rfl⟩
theorem containsfar_c(R:List LI)(d:LI)(A f:OA)(c cc g:Nat)(w:Wo)(h:zR w A R)(k:w.cell? (zA g 0)=some (zL f d.length cc))(i:zI w f d)(l:R.length<=1000)(j:∀o∈R,o.length<=1000/\o≠d):
 zC 102 #[zL A R.length c,.func (.func 103) #[] #[zP g]] w (Quiet (.bool false) w):=by have b:=zH (indexfar_c R d A f c cc g w h k i l j);clear h i j;go_enter func102,ntmps102;go_wp2_with fail;refine b.o.mono ?_;rintro e w' ⟨rfl,n,rfl⟩;go_wp2;go_ret;exact⟨rfl,n,rfl⟩
end Go.Proofs.YtocbdafcolbfeaaGreat
namespace Go.Proofs.YtocbdafcolbfeaaGreat
open Go.RowKit Pln
def colT(j:Nat):LN:=[[1,0],[0,1],[1,1]].getD j []
def rowT(k:Nat):LN:=[[1,0,1],[0,1,1]].getD k []
def colsT:LL:=[[1,0],[0,1],[1,1]]
theorem colT_len{j:Nat}(h:j<3):(colT j).length=2:=by
 match j,h with
 |0,_=>rfl
 |1,_=>rfl
 |2,_=>rfl
theorem colT_lt{j:Nat}(h:j<3):∀x∈colT j,x<2:=by
 match j,h with
 |0,_=>decide
 |1,_=>decide
 |2,_=>decide
theorem colT_ix{j:Nat}(h:j<3):∃p:Nat,nzIx (colT j) 0=(p:Int)/\p<2/\(colT j).getD p 0=1:=by
 match j,h with
 |0,_=>exact⟨0,rfl,U0,rfl⟩
 |1,_=>exact⟨1,rfl,U0,rfl⟩
 |2,_=>exact⟨0,rfl,U0,rfl⟩
theorem inv_T:invT lT (logL lT (2^1)) (2^1) 1=1:=U1
theorem mul_T0:mulT lT (logL lT (2^1)) (2^1) 1 0=0:=U1
theorem scale_T{j:Nat}(h:j<3):scaleRow (opsT 2 1 lT) 1 (colT j)=colT j:=by
 have c:(opsT 2 1 lT).mul 1 0=0:=mul_T0;have b:(opsT 2 1 lT).mul 1 1=1:=mul_T;unfold scaleRow;match j,h with
 |0,_=>show[(opsT 2 1 lT).mul 1 1,(opsT 2 1 lT).mul 1 0]=[1,0];rw[c,b]
 |1,_=>show[(opsT 2 1 lT).mul 1 0,(opsT 2 1 lT).mul 1 1]=[0,1];rw[c,b]
 |2,_=>show[(opsT 2 1 lT).mul 1 1,(opsT 2 1 lT).mul 1 1]=[1,1];rw[b]
theorem col_step{j k:Nat}(b:j<3)(c:k<2):(colT j).take (k+1)=(colT j).take k++[(rowT k).getD j 0]:=by
 match j,b,k,c with
 |0,_,0,_=>rfl
 |0,_,1,_=>rfl
 |1,_,0,_=>rfl
 |1,_,1,_=>rfl
 |2,_,0,_=>rfl
 |2,_,1,_=>rfl
theorem cols_far{j:Nat}(h:j<3):∀o∈nzs (colsT.take j),o.length<=1000/\o≠nz (colT j):=by
 match j,h with
 |0,_=>intro o b;exact absurd b (by simp[nzs])
 |1,_=>decide
 |2,_=>decide
theorem rowI{k:Nat}(h:k<2):([[1,0,1],[0,1,1]]:List LI).getD k []=nz (rowT k)/\(rowT k).length=3:=by
 match k,h with
 |0,_=>exact⟨rfl,rfl⟩
 |1,_=>exact⟨rfl,rfl⟩
theorem colT_all{j:Nat}(h:j<3):(colT j).take 2=colT j:=by
 match j,h with
 |0,_=>rfl
 |1,_=>rfl
 |2,_=>rfl
theorem cols_snoc{j:Nat}(h:j<3):colsT.take (j+1)=colsT.take j++[colT j]/\(colsT.take j).length=j:=by
 match j,h with
 |0,_=>exact⟨rfl,rfl⟩
 |1,_=>exact⟨rfl,rfl⟩
 |2,_=>exact⟨rfl,rfl⟩
end Go.Proofs.YtocbdafcolbfeaaGreat
namespace Go.Proofs.YtocbdafcolbfeaaGreat
open Go.RowKit Pln Tryz
theorem app_int{W:Wo}{B:Nat}{v:Value}{l:LN}(x p:Nat)(h:Num W B v l)(q:B<=W.heap.size)(s:l.length<=1000)(r:W.heap[p]?=some (.cells #[Y (x:Int)] 3 (0,0))):
 ∃(v':Value)(w':Wo),(Builtin.append_ #[23,23] 23 #[v,zS p 1 1]).run prog W=.ok v' w'/\Num w' B v' (l++[x])/\W.grownBy w' v.ownBlock:=by obtain⟨o,n,f,g,i⟩:=qaF infoInt;have d:=qeS r;obtain⟨v',w',c,b,m,_,_⟩:=run_append_own_at (P:=prog) (w:=W) B 23 23 3 o _ 1 8 underlying23 n f g i rfl dc v l.length _ h (zA p 0) 1 1 [Y (x:Int)] rfl (fun j u hj=>by rw[Addr.add_mid];exact d j u hj) (by intro u k;simp at k;subst k;rfl) U4 U0 q;exact⟨v',w',c,Num.step b,m⟩
def RelCk(wa:Wo)(bc j:Nat)(v36:Value)(wr:Wo):Prop:=
 ∃(k:Nat)(v:Value),k<=2/\v36=Y k/\Num wr wa.heap.size v ((colT j).take k)/\wr.heap[bc]?=some (.cells [v].toArray 23 (0,0))/\Below bc wa wr/\wa.heap.size<=wr.heap.size
def RelCj(w2:Wo)(v9 v30:Value)(wr:Wo):Prop:=
 ∃(j:Nat)(bs:List (Nat × Nat)),j<=3/\v30=Y j/\LGrid wr w2.heap.size v9 (colsT.take j) bs (colsT.take j).length/\zB w2 wr
def CkS(bc:Nat)(v:Value)(br o x:Nat)(W:Wo):Prop:=W.heap[bc]?=some (.cells [v].toArray 23 (0,0))/\W.cell? (zA br o)=some (Y (x:Int))
theorem columns_rep(G:Nat)(w:Wo)(hG:zR w (zO G) [[1,1,1]]):
 zC 50 #[Cy 2 1 3 G 1 1,Y 3] w (BPost true w):=by
 have HX:=zH (bx_new w (Cp 2 1 3 G 1 1) 32);have HG:=zH hG;clear hG;go_enter func50,ntmps50;go_upto_region 1 with fail;generalize w.alloc (.cells #[Y 2,Y 1,zL none 0 0,Y 3,zS G 1 1] 32)=W0 at *;have I:=zH HX.o.range;have HD:=zH (dual_rep G W0 ((HG.o.keep HX.o.below).more HX.o.below.size));go_wp2_with (refine wpList_load_mid rfl 32 (.tmp 2) rfl w.heap.size 0 rfl (Cp 2 1 3 G 1 1) _ I.o underlying32 rfl codeSize ?_);go_fit HD.o;rintro e P ⟨⟨A2,c2,A',c',rfl,hr⟩,hb1⟩;have b1:=zH (HX.o.grow hb1);have bw:=zH (hr.lower HX.o.below.size);have dq:=Nat.lt_of_lt_of_le HX.o.2.2 hb1.size;clear hb1 hr HD HX I HG;clear W0;go_upto_region 2 with(refine qaH rfl 32 (.tmp 5) (.tmp 20) rfl P _ (Cc 2 1 A2 0 c2 3 A' 2 c') rfl rfl codeSize rfl U3 ?_);have l:zB P (P.alloc (C4 2 1 A2 0 c2 3 A' 2 c')):=zV.alloc zn _;have a5:=zH (b1.o.grow l);have bx:=zH (bw.o.grow l);have bo:zK ((P.alloc (C4 2 1 A2 0 c2 3 A' 2 c')).heap[P.heap.size]?=some (C4 2 1 A2 0 c2 3 A' 2 c')):=heap_alloc_new _ _;have be:P.heap.size<(P.alloc (C4 2 1 A2 0 c2 3 A' 2 c')).heap.size:=U2;clear l b1 bw;generalize P.alloc (C4 2 1 A2 0 c2 3 A' 2 c')=W2 at *;generalize P.heap.size=Bd at *;clear P;have I:=zH a5.o.field;have U:zK (zC 72 #[.agg #[Y 2,Y 1,zL none 0 0]] W2 fun e w'=>(∃gb,e=.returned (.tuple (D4 gb))/\GFUp w' W2.heap.size gb 2 1 lT (logL lT (2^1)))/\zB W2 w'):=(fnew_up 2 1 [] none 0 W2 (fun h=>absurd h U2) U1);go_wp2_with (refine wpList_load_mid rfl 29 (.tmp 23) rfl w.heap.size 0 rfl [Y 2,Y 1,zL none 0 0] _ I.o underlying29 rfl fieldSize ?_);go_fit U.o;rintro e w3 ⟨⟨gb,rfl,hg⟩,hb3⟩;have a6:=zH (a5.o.grow hb3);have c6:=zH (bx.o.grow hb3);have cx:=zH ((hb3.block Bd be).trans bo.o);have dd:=Nat.lt_of_lt_of_le be hb3.size;have ct:=zH hg.at_;clear hb3 hg a5 bx bo U I be;clear W2;have y3:w3.cell? (zA w.heap.size 3)=some (Y 3):=a6.o.cell rfl;go_wp2_with fail;have bm:zK (RelCj w3 (zL none 0 0) (Y ((0:Nat):Int)) w3):=⟨0,[],U0,rfl,⟨rfl,Nat.zero_le _,World.ownsRow_nil _ _ _ _,fun i hi=>by simp at hi,fun i hi=>by simp at hi⟩,Below.refl _ _⟩;go_loopw [9,30] (fun v9 v30 wr=>RelCj w3 v9 v30 wr) (fun _ v30 _=>3-(intOf v30).toNat);case atStart=>exact bm.o
 case round =>
  obtain⟨j,bs,hj,rfl,cj,hb⟩:=hrel;have T:=zH cj;have B:=zH hb;clear cj hb bm y3;by_cases c:j<3
  . (have j0 : (0 : Int) <= (j : Int) := by omega);have j1:(j:Int)<3:=U0;have dr:IntKind.i64.wrap ((j:Int)+1)=(j:Int)+1:=IntWalk.i64_in _ U0;obtain ⟨cq,af⟩:=cols_snoc c;have b0:=zH cq;have ah:=zH (cols_far c);obtain ⟨VO,co,e9,_⟩:=own_slice' T.o.out;rw [af] at e9;subst e9;clear cq;obtain ⟨di,cg,an,ao,ap⟩:=qaF infoInts;have cw:=zH cg;have b2:=zH an;have b3:=zH ao;have b6:=zH ap;clear cg an ao ap;generalize colsT.take j=R at T b0 ah af;have J:=zH af;clear af;go_upto_region 8 with fail;have l:zB wr (wr.alloc (.cells #[zL none 0 0] 23)):=zV.alloc zn _;have a0:zK ((wr.alloc (.cells #[zL none 0 0] 23)).heap[wr.heap.size]?=some (.cells [zL none 0 0].toArray 23 (0,0))):=heap_alloc_new _ _;have ae:wr.heap.size<(wr.alloc (.cells #[zL none 0 0] 23)).heap.size:=U2;have ar:zK (∀ W,Below wr.heap.size (wr.alloc (.cells #[zL none 0 0] 23)) W->zB wr W):=fun W hW=>l.trans hW;have a1:=zH T.o;have s:=B.o.size;have E:=zH (B.o.trans (l.mono s));clear l T B;generalize wr.alloc (.cells #[zL none 0 0] 23)=wa at *;generalize ai:wr.heap.size=b at a0 ae s ar ⊢;have ac:=zH ai;clear ai;have y4:wa.cell? (zA Bd 4)=some (zL A' 2 c'):=(E.o.cell (p:=(zA Bd 4)) dd).trans (cell_of_row _ _ 4 _ _ _ cx.o);(have c7:=zH<|c6.o.rowsAt.keep E.o);have bn:zK (RelCk wa b j (Y ((0:Nat):Int)) wa):=⟨0,zL none 0 0,U0,rfl,Num.nil _ _,a0.o,Below.refl _ _,Nat.le_refl _⟩;go_wp2_with fail;clear y4;go_loopw [36] (fun v36 wr=>RelCk wa b j v36 wr) (fun v36 _=>2-(intOf v36).toNat);case atStart=>exact bn.o
    case round =>
     obtain⟨k,v,hk,rfl,ak,M,hb,ag⟩:=hrel;have U:=zH ak;have HC:=zH M;have B:=zH hb;clear ak M hb bn a0;by_cases bb:k<2
     . (have k0 : (0 : Int) <= (k : Int) := by omega);have k1:(k:Int)<2:=U0;have ds:IntKind.i64.wrap ((k:Int)+1)=(k:Int)+1:=IntWalk.i64_in _ U0;obtain ⟨cn,bd⟩:=rowI bb;obtain ⟨bR,oR,Ai,ci,rfl,dm,a8,ba⟩:=(c7.o.keep (B.o.mono s)).at_ (i:=k) bb;rw [cn] at a8 ba;rw [qaA,bd] at a8;obtain ⟨bi,oi,rfl,dn,a7⟩:=ba.at_ (k:=j) (by rw [qaA,bd];exact c);rw [qaC] at a7;have c8:=zH (col_step c bb);clear cn bd ba;generalize (rowT k).getD j 0=x at *;go_upto_region 11 with fail;have ab:zK (CkS b v bi (oi+j) x wr.drew):=⟨HC.o,a7⟩;(have bt:=zH<|U.o.grow (Below.refl _ wr).drew);(have bh:=zH<|B.o.drew);have cr:wa.heap.size<=wr.drew.heap.size:=ag;(have dh:((colT j).take k).length<=1000:=by rw [List.length_take];omega);refine qaS 7 7 (CkS b v bi (oi+j) x) [(0,0),(1,1),(1,2),(1,3),(0,4),(2,5),(2,6)] default U1 U1 (fun _ _ d _ _ h=>by cases d <;> exact h) ab.o ?_;generalize wr.drew=K at *;clear U HC B ag a8 a7;simp only [List.map_cons,List.map_nil,List.getD_cons_zero,List.getD_cons_succ];apply qbF rfl
       . intro V hV;have y:V.cell? (zA b 0)=some v:=cell_of_row _ _ 0 _ _ _ hV.1;go_simp;rfl
       go_simp
       iterate 3
        apply qaM rfl
        . intro V
          go_simp
          rfl
        go_simp
       apply qbF rfl
       . intro V hV;have y:=hV.2;go_simp;rfl
       go_simp;have r:zB K (K.alloc (.cells #[Y (x:Int)] 3)):=zV.alloc zn _;have Z:zK (CkS b v bi (oi+j) x (K.alloc (.cells #[Y (x:Int)] 3))):=⟨(r.block b U0).trans ab.o.1,(r.cell (p:=(zA bi (oi+j))) (by show bi<K.heap.size;omega)).trans ab.o.2⟩;have a2:=zH (bt.o.grow r);have g:=zH (bh.o.trans (r.mono U0));have m:zK ((K.alloc (.cells #[Y (x:Int)] 3)).heap[K.heap.size]?=some (.cells #[Y (x:Int)] 3 (0,0))):=heap_alloc_new _ _;have O:=Nat.le_trans cr r.size;apply qdM rfl (v:=zS K.heap.size 1 1) (w':=K.alloc (.cells #[Y (x:Int)] 3))
       . go_simp
       . exact Z.o
       go_simp;generalize K.heap.size=nb at *;generalize K.alloc (.cells #[Y (x:Int)] 3)=W5 at *;obtain⟨v',Q,al,cl,ce⟩:=app_int x nb a2.o O dh m.o;have L:=zV.grown ce O (fun i hi=>(World.ownsRow.lt a2.o i hi).1);have aa:zK (CkS b v bi (oi+j) x Q):=⟨(L.block b ae).trans Z.o.1,(L.cell (p:=(zA bi (oi+j))) (by show bi<wa.heap.size;omega)).trans Z.o.2⟩;have X:=zH cl;rw[<- c8.o] at X;have D:=zH (g.o.trans (L.mono (Nat.le_of_lt ae)));have bf:=Nat.le_trans O L.size;(have ch:((colT j).take (k+1)).length=k+1:=by rw[List.length_take,colT_len c];omega);obtain⟨VA,A,e6⟩:=X.o.slice;rw[ch] at e6;subst e6;clear ch;refine qdM rfl (exec_append (.tmp 40) (.tmp 45) 23 rfl rfl rfl al) aa.o ?_;go_simp;clear al cl ce L r Z a2 g m ab bt bh;refine qbH ?_;show wpList _ _ _ _ _ _;have yb:Q.cell? (zA b 0)=some v:=cell_of_row _ _ 0 _ _ _ aa.o.1;(have fb:Q.frozen? (zA b 0)=false:=by simp[World.frozen?,aa.o.1]);have cy:=zH (heap_set_same aa.o.1 0 (zL VA (k+1) A));have cz:zK (Num (Q.setCell (zA b 0) (zL VA (k+1) A)) wa.heap.size (zL VA (k+1) A) ((colT j).take (k+1))):=World.ownsRow.kept X.o (grown_set Q (zA b 0) _) (.inr (fun e=>by have:=(World.ownsRow.lt X.o b e).1;omega));have aq:=zH (D.o.setCell (p:=(zA b 0)) zn (zL VA (k+1) A));(have dg:wa.heap.size<=(Q.setCell (zA b 0) (zL VA (k+1) A)).heap.size:=by simpa using bf);go_wp2;go_roundw;case rel=>exact⟨k+1,_,U0,gn,cz.o,cy.o,aq.o,dg⟩
       case measure=>first|(simp[intOf];done)|(simp[intOf];omega)
     . (obtain rfl : k = 2:=by omega);rw[colT_all c] at U;obtain⟨p,hp,db,cm⟩:=colT_ix c;have f:=colT_len c;obtain⟨VA,A,ev⟩:=U.o.slice;rw[f] at ev;subst ev;(have ad:zK (zI wr VA (nz (colT j))):=by have h:=U.o;unfold Num at h;rw[f] at h;exact(ints_of_own h f).ints);have az:=zH (indexnz_c 100 columns1_c (enters_of func100 U1 rfl) (colT j) VA A wr ad.o U0);rw[f,hp] at az;have yc:wr.cell? (zA b 0)=some (zL VA 2 A):=cell_of_row _ _ 0 _ _ _ HC.o;obtain⟨bv,ov,rfl,dp,cd⟩:=ad.o.at_ (k:=p) (by rw[qaA,f];exact db);rw[qaC,cm] at cd;have p0:(0:Int)<=(p:Int):=U0;have p1:(p:Int)<2:=U0;have p3:¬(p:Int)<0:=U0;have av:=zH (E.o.trans (B.o.mono s));have ax:=zH ((ct.o.keep av.o).more av.o.size);have ay:=zH (inv_c 1 gb 2 1 wr.heap.size _ lT wr ft_T ax.o U0 U0);rw[inv_T] at ay;clear hp cm U;go_wp2_with fail;refine az.o.mono ?_;rintro e w' ⟨rfl,rfl⟩;clear az;go_wp2_with fail;refine ay.o.mono ?_;rintro e w' ⟨rfl,n,rfl⟩;clear ay cd;have dj:(wr.drewN n).cell? (zA b 0)=some (zL (some (zA bv ov)) 2 A):=yc;have a4:=zH (scale_c 1 gb 2 1 _ lT (colT j) (some (zA bv ov)) A (wr.drewN n) ft_T (ax.o.keep (qaB zV n)) U0 (colT_lt c) (ad.o.keep (qaB zV n)) U0);rw[scale_T c,f] at a4;have bp:zK ((wr.drewN n).heap[b]?=some (.cells [zL (some (zA bv ov)) 2 A].toArray 23 (0,0))):=HC.o;(have bj:=zH<|qaB B.o n);have b9:b<(wr.drewN n).heap.size:=Nat.lt_of_lt_of_le ae ag;clear ad ax av HC B ag;generalize wr.drewN n=wn at *;go_wp2_with fail;refine a4.o.mono ?_;rintro e w4 ⟨rfl,hr4,hb4⟩;have S:=zH ((hb4.block b b9).trans bp.o);have a3:=zH hr4;have bg:=zH (bj.o.trans (hb4.mono (Nat.le_of_lt b9)));have de:=a3.o.lt.2;clear hr4 hb4 a4 bp bj yc dj;generalize wn.heap.size=q at *;clear wn;have y5:w4.cell? (zA b 0)=some (zL (some (zA bv ov)) 2 A):=cell_of_row _ _ 0 _ _ _ S.o;(have f5:w4.frozen? (zA b 0)=false:=by simp[World.frozen?,S.o]);go_upto_region 18 with fail;have m:=zH (heap_set_same S.o 0 (zS q 2 2));have H:=zH (a3.o.far (p:=(zA b 0)) (by show q≠b;omega) (zS q 2 2));have g:=zH (bg.o.setCell (p:=(zA b 0)) zn (zS q 2 2));clear y5 f5 S a3 bg de;generalize w4.setCell (zA b 0) (zS q 2 2)=z at *;clear w4;(have C:=zH<|fun W hW=>a1.o.grow (ar.o W (g.o.trans hW)));have O:=Nat.le_trans E.o.size g.o.size;have cf:=H.o.lt;(have b7:zR z VO (nzs R):=by have h:=C.o z zV;rw[<- J.o] at h;exact h.up.rowsAt);have aw:=zH (containsfar_c (nzs R) (nz (colT j)) VO (zO q) co 2 b z b7 (by rw[qaA,f];exact cell_of_row _ _ 0 _ _ _ m.o) (H.o.ints H.o.lt.2) (by rw[nzs_len,J.o];omega) ah.o);rw[nzs_len,J.o] at aw;clear b7;go_wp2_with fail;refine aw.o.mono ?_;rintro e w' ⟨rfl,n2,rfl⟩;clear aw;have yc:(z.drewN n2).cell? (zA b 0)=some (zS q 2 2):=cell_of_row _ _ 0 _ _ _ m.o;have au:zK (Below b z (z.drewN n2)):=qaB zV n2;(have bz:zK (Row (z.drewN n2) b q 2 (nz ((R++[colT j]).getD R.length []))):=by show Row _ _ _ _ _;rw[getD_snoc_eq R (colT j) []];exact(H.o.below (qaB (Below.refl z.heap.size z) n2) cf.2).base U0);(have D:=zH<|g.o.trans au.o);have bq:=zH ((C.o _ au.o).wide (colT j));have bf:w3.heap.size<=(z.drewN n2).heap.size:=O;have dl:b<(z.drewN n2).heap.size:=Nat.lt_of_le_of_lt U0 cf.2;have da:=getD_snoc_eq R (colT j) [];clear g m H au C;generalize z.drewN n2=Q at *;(have bu:zK ((Q.alloc (.cells #[zS q 2 2] 23)).ownsRow w3.heap.size 23 1 (zL VO j co) j ((List.range j).map (hdr (R++[colT j]) bs))):=by have h:=bq.o.out;rw[J.o] at h;exact World.ownsRow.alloc h _);go_wp2_with (at_builtin;refine wpList_append_own_at _ rfl (.tmp 72) (.tmp 74) 30 rfl w3.heap.size 23 di _ 1 24 underlying30 cw.o b2.o b3.o b6.o rfl dc (zL VO j co) j ((List.range j).map (hdr (R++[colT j]) bs)) rfl bu.o (zA Q.heap.size 0) 1 1 [zS q 2 2] rfl rfl ?c1 ?c2 ?c3 ?c4 ?c5 ?_);(try case c1=>exact World.news_of_block (cs:=#[zS q 2 2]) (t:=23) (fr:=(0,0)) (heap_alloc_new Q _));case c2=>first|rfl|(intro u hu;simp at hu;subst hu;rfl)
       case c3=>unfold maxLen;omega
       case c4=>omega
       case c5=>first|omega|(simp;omega)|assumption
       intro v' w7 N a9 _ b8;have br:=zH (a1.o.wide (colT j));have aj:=fun i hi=>(World.ownsRow.lt a1.o.out i hi).1;(have c9:zK (LGrid w7 w3.heap.size v' (R++[colT j]) (bs++[(q,2)]) (R.length+1)):=by refine br.o.step U2 (by rw[ac.o];exact s) (ar.o _ D.o) (by rw[ac.o];exact bz.o) ?_ a9 (by simpa using b8);rw[da,f,J.o];exact N);(have aq:=zH<|((E.o.trans (D.o.mono s)).alloc bf _).grown a9 so (fun i hi=>aj i hi));clear N a9 b8 bu bq D bz aj br;go_wp2;go_roundw;case rel=>exact⟨j+1,bs++[(q,2)],U0,gn,by rw[b0.o,List.length_append];exact c9.o,aq.o⟩
       case measure=>first|(simp[intOf];done)|(simp[intOf];omega)
  . go_wp2;go_ret;exact⟨rfl,a6.o.below.trans (B.o.mono a6.o.below.size)⟩
def powT(l lg:LN)(q x n:Nat):Nat:=if n=0 then 1 else if x=0 then 0 else l.getD (lg.getD x 0*(n % (q-1)) % (q-1)) 0
theorem pow_c(x n gb p m B:Nat)(md l:LN)(w:Wo)(hF:FT p m md l)(hG:GFAt w B gb p m l (logL l (p^m)))(hx:x<p^m)(hn:n<=1000000):
 zC 105 (Cf gb x n) w (Quiet (.tuple (D7 ((powT l (logL l (p^m)) (p^m) x n:Nat):Int))) w):=by
 have i:=zH (in_c x gb p m B l _ w hG hx);have ad:=hF.small.q;have k:=hF.tab.len;have d:=logL_len l (p^m);have g:=zH<|fun h=>hF.log hx h
 have ac:=(qaV (p:=p) (m:=m) (by have:=hF.small.p1;omega) hF.small.m1 md).q1;obtain⟨_,_,_,ge,ce,gl,cl,_,J,A,C,K,L⟩:=hG.cells;rw[k] at A;rw[d] at C;have t:=L x (by rw[d];exact hx);have y:=zH<|fun j hj=>K j (by rw[k];exact hj)
 clear K L k d hF hG;generalize logL l (p^m)=v at *;generalize p^m=q at *;by_cases b:n=0
 . (have s:zK (powT l v q x n=1):=by show _=_;unfold powT;rw[if_pos b]);(have E:((n:Int)==0)=true:=by simp;exact b);clear b y g J A C t;go_enter func105,ntmps105;go_wp2_with (go_at_call 158;go_fit i.o;rintro e w' ⟨rfl,rfl⟩);go_ret2;exact⟨by rw[s.o];rfl,0,rfl⟩
 have E:((n:Int)==0)=false:=by simp;exact b
 have ab:¬(n:Int)<0:=U0;by_cases c:x=0
 . (have s:zK (powT l v q x n=0):=by show _=_;unfold powT;rw[if_neg b,if_pos c]);(have I:((x:Int)==0)=true:=by simp;exact c);clear b c y g J A C t;go_enter func105,ntmps105;go_wp2_with (go_at_call 158;go_fit i.o;rintro e w' ⟨rfl,rfl⟩);go_ret2;exact⟨by rw[s.o];rfl,0,rfl⟩
 have I:((x:Int)==0)=false:=by simp;exact c
 have s:zK (powT l v q x n=l.getD (v.getD x 0*(n % (q-1)) % (q-1)) 0):=by show _=_;unfold powT;rw[if_neg b,if_neg c]
 have aa:=g.o c;clear g c b;generalize v.getD x 0=f at *;have X:n % (q-1)<q-1:=Nat.mod_lt _ U0;have O:zK (Int.tmod (n:Int) ((q:Int)-1)=((n % (q-1):Nat):Int)):=by show _=_;rw[<- qaY,Int.natCast_sub U0];rfl
 generalize n % (q-1)=a at *;have Q:zK (Int.tmod ((a:Int)+((q:Int)-1)) ((q:Int)-1)=(a:Int)):=by have h:Int.tmod (((a+(q-1):Nat)):Int) ((q-1:Nat):Int)=(((a+(q-1)) % (q-1):Nat):Int):=qaY _ _;rw[Nat.add_mod_right,Nat.mod_eq_of_lt X,Int.natCast_add,Int.natCast_sub U0] at h;exact h
 have H:f*a % (q-1)<q-1:=Nat.mod_lt _ U0;have u:f*a<=256*256:=Nat.mul_le_mul U0 U0;have Z:=y.o _ H;have z:zK (Int.tmod ((f:Int)*(a:Int)) ((q:Int)-1)=((f*a % (q-1):Nat):Int)):=by show _=_;rw[<- qaY,Int.natCast_mul,Int.natCast_sub U0];rfl
 have D:(f:Int)*(a:Int)<=65536/\0<=(f:Int)*(a:Int):=by
  have:(f:Int)*(a:Int)=((f*a:Nat):Int):=by rw[Int.natCast_mul]
  omega
 have M:zK (IntKind.i64.wrap ((f:Int)*(a:Int))=(f:Int)*(a:Int)):=IntWalk.i64_in _ U0;have N:zK (IntKind.i64.wrap ((q:Int)-1)=(q:Int)-1):=IntWalk.i64_in _ U0;have P:zK (IntKind.i64.wrap ((a:Int)+((q:Int)-1))=(a:Int)+((q:Int)-1)):=IntWalk.i64_in _ U0;clear y u D;generalize f*a % (q-1)=r at *;generalize l.getD r 0=ae at *;have j1:(0:Int)<=(x:Int):=U0;have j2:(x:Int)<(q:Int):=U0;have j5:(0:Int)<=(r:Int):=U0;have j6:(r:Int)<((q-1:Nat):Int):=U0;have j7:¬(q:Int)-1=0:=U0;go_enter func105,ntmps105;have R:=M.o;have S:=N.o;have T:=O.o;have U:=P.o;have V:=Q.o;have W:=z.o;go_upto_region 10 with(go_at_call 158;go_fit i.o;rintro e w' ⟨rfl,rfl⟩);go_quiet (fail);clear R S T U V W;go_wp2;go_ret2;exact⟨by rw[s.o];rfl,nq,rfl⟩
def ordT(lg:LN)(q x:Nat):Nat:=(q-1) / Nat.gcd (q-1) (lg.getD x 0)
def evN(O:Ops):LN->Nat->Nat
 |[],_=>0
 |a :: r,x=>O.add (O.mul (evN O r x) x) a
theorem evN_step{O:Ops}{v:LN}{k x:Nat}(b:k<v.length):evN O (v.drop k) x=O.add (O.mul (evN O (v.drop (k+1)) x) x) (v.getD k 0):=by
 rw[List.drop_eq_getElem_cons b];have:v.getD k 0=v[k]:=by simp[List.getD,b]
 rw[this];rfl
def RelEv(w:Wo)(q:Nat)(O:Ops)(v:LN)(x:Nat)(v7 v8:Value)(wr:Wo):Prop:=
 ∃(k y n:Nat)(i:Int),k<=v.length/\v7=Y y/\v8=Y i/\i+1=(k:Int)/\y<q/\evN O (v.drop k) x=y/\wr=w.drewN n
theorem eval_c(gb p m B:Nat)(md l v:LN)(x:Nat)(A:OA)(c:Nat)(w:Wo)(hF:FT p m md l)(hG:GFAt w B gb p m l (logL l (p ^ m)))(hv:∀ a∈v,a<p ^ m)(hx:x<p ^ m)(hA:IntsAt w B A (nz v))(hl:v.length<=1000):
 zC 162 #[zP gb,zL A v.length c,Y x] w (Quiet (Y ((evN (opsT p m l) v x:Nat):Int)) w):=by
 have L:0<p^m:=by have:=hF.small.p1;exact Nat.pow_pos U0
 have N:zK (∀y n,y<p^m->zC 142 (Cf gb y x) (w.drewN n) (Quiet (Y (((opsT p m l).mul y x:Nat):Int)) (w.drewN n))):=
  fun y n f=>mul_c y x gb p m B md l (w.drewN n) hF hG f hx
 have P:zK (∀x y n,x<p^m->y<p^m->zC 143 (Cf gb x y) (w.drewN n) (Quiet (Y (((opsT p m l).add x y:Nat):Int)) (w.drewN n))):=
  fun x y n hx f=>add_c x y gb p m B l _ (w.drewN n) hF.small hG hx f
 have E:zK (∀y,y<p^m->(opsT p m l).mul y x<p^m):=fun y f=>mulT_lt hF f hx;have C:zK (∀x y,x<p^m->y<p^m->(opsT p m l).add x y<p^m):=fun x y _ _=>qdR (by have:=hF.small.p1;omega) m x y;have I:zK (∀k,k<v.length->v.getD k 0<p^m):=fun k K=>by
  have:v.getD k 0=v[k]:=by simp[List.getD,K]
  rw[this];exact hv _ (List.getElem_mem K)
 have Q:=zH hA;have h:zK (RelEv w (p^m) (opsT p m l) v x (Y ((0:Nat):Int)) (Y ((v.length:Int)-1)) w):=⟨v.length,0,0,_,Nat.le_refl _,rfl,rfl,U0,L,by rw[List.drop_length];rfl,rfl⟩;clear hF hG hv hA;generalize opsT p m l=O at *;generalize p^m=q at *;have S:IntKind.i64.wrap ((v.length:Int)-1)=(v.length:Int)-1:=IntWalk.i64_in _ U0;go_enter func162,ntmps162;go_wp2_with fail;clear S;go_loopw [7,8] (fun v7 v8 wr=>RelEv w q O v x v7 v8 wr) (fun _ v8 _=>(intOf v8+1).toNat);case atStart=>exact h.o
 case round =>
  obtain⟨k,y,n,i,K,rfl,rfl,Z,f,d,rfl⟩:=hrel;have b:=zH d;clear d h;rcases Nat.eq_zero_or_pos k with rfl|hk0
  . (obtain rfl:i=-1:=by omega);(have T:zK (evN O v x=y):=by have:=b.o;rw[List.drop_zero] at this;exact this);go_wp2;go_ret;exact⟨qaG (by rw[T.o]),n,rfl⟩
  . obtain ⟨j,rfl⟩ : ∃ j,k = j + 1 := ⟨k - 1,U0⟩;obtain rfl:i=(j:Int):=U0;obtain ⟨V,ov,rfl,X,g⟩:=Q.o.at_ (k:=j) (by rw [qaA];omega);rw [qaC] at g;(have H:zK (evN O (v.drop j) x=O.add (O.mul y x) (v.getD j 0)):=by show _=_;rw [evN_step U0,b.o]);have R:=I.o j U0;have k0:(0:Int)<=(j:Int):=U0;have k1:(j:Int)<(v.length:Int):=U0;have hw:IntKind.i64.wrap ((j:Int)-1)=(j:Int)-1:=IntWalk.i64_in _ U0;generalize v.getD j 0=z at *;(have D:zK (∀ W,SDrew (w.drewN n) W->W.cell? (zA V (ov+j))=some (Y z)):=fun W ⟨j,hW⟩=>by subst hW;exact g);(have U:zK (∀ W,SDrew (w.drewN n) W->zC 142 (Cf gb y x) W fun e w'=>e=.returned (Y ((O.mul y x:Nat):Int))/\SDrew (w.drewN n) w'):=fun W ⟨j,hW⟩=>by subst hW;rw [World.drewN_drewN];refine (N.o y _ f).mono ?_;rintro e w' ⟨he,i,rfl⟩;exact ⟨he,j+i,by rw [World.drewN_drewN,World.drewN_drewN,Nat.add_assoc]⟩);have s:=E.o y f;(have u:zK (∀ W,SDrew (w.drewN n) W->zC 143 (Cf gb ((O.mul y x:Nat):Int) z) W fun e w'=>e=.returned (Y ((O.add (O.mul y x) z:Nat):Int))/\SDrew (w.drewN n) w'):=fun W ⟨j,hW⟩=>by subst hW;rw [World.drewN_drewN];refine (P.o _ z _ s R).mono ?_;rintro e w' ⟨he,i,rfl⟩;exact ⟨he,j+i,by rw [World.drewN_drewN,World.drewN_drewN,Nat.add_assoc]⟩);have M:=C.o _ z s R;clear g N P Q;go_upto_region 5 with fail;refine qaD (SDrew (w.drewN n)) U1 U1 ⟨1,rfl⟩ ?_
    repeat (first
     | (apply qaJ rfl
        . intro W r
          have y0:=D.o W r
          go_simp
          try rfl
        go_simp)
     | (apply qaO rfl
        . intro W r
          go_simp
          exact⟨rfl,rfl⟩
        . intro W r
          first
           |exact U.o W r
           |exact u.o W r
        go_simp))
    refine qaE ?_;intro w2 J;obtain⟨t,rfl⟩:=J;rw[World.drewN_drewN];go_wp2;go_roundw;case rel=>exact⟨j,_,_,_,U0,rfl,rfl,U0,M,H.o,rfl⟩
    case measure=>first|(simp[intOf];done)|(simp[intOf];omega)
theorem trim_keep(v:LN)(A:OA)(c:Nat)(w:Wo)(r:zI w A (nz v))(s:0<v.length)(t:v.length<=1000)(q:v.getD (v.length-1) 0≠0):
 zC 255 #[zL A v.length c] w fun e w'=>e=.returned (zL A v.length c)/\w=w':=by
 obtain⟨b,o,rfl,j,d⟩:=r.at_ (k:=v.length-1) (by rw[qaA];omega);rw[qaC] at d;generalize v.getD (v.length-1) 0=x at *;have g:((x:Int)==0)=false:=beq_false_of_ne U0;obtain⟨n,f⟩:∃n,v.length=n+1:=⟨v.length-1,U0⟩;rw[f] at d ⊢;rw[show n+1-1=n by omega] at d;have i:IntKind.i64.wrap (((n+1:Nat):Int)-1)=(n:Int):=by rw[IntWalk.i64_in _ U0];omega
 have l:(0:Int)<=(n:Int):=U0;have m:(n:Int)<((n+1:Nat):Int):=U0;have p:(0:Int)<((n+1:Nat):Int):=U0;clear r q;generalize n+1=h at *;go_enter func255,ntmps255;go_wp2;go_loopw [0] (fun v0 wr=>v0=zL (some (zA b o)) h c/\wr=w) (fun _ _=>0);case atStart=>exact⟨rfl,rfl⟩
 case round=>obtain⟨rfl,rfl⟩:=hrel;go_wp2;go_ret;exact⟨rfl,rfl⟩
def canK(v:LN)(k:Nat):LN:=v.take k++List.replicate (v.length-k) 0
theorem canK_len(v:LN)(k:Nat)(b:k<=v.length):(canK v k).length=v.length:=by simp[canK];omega
theorem canK_set(v:LN)(k:Nat)(b:k<v.length):(canK v k).set k (v.getD k 0)=canK v (k+1):=by have h:=scK_set id v k b;unfold scK at h;unfold canK;simpa using h
def RelCn(w:Wo)(v:LN)(v13:Value)(wr:Wo):Prop:=
 ∃k:Nat,k<=v.length/\v13=Y k/\Row wr w.heap.size w.heap.size v.length (nz (canK v k))/\zB w wr
theorem canon_keep(gb p m:Nat)(l lg v:LN)(A:OA)(c:Nat)(w:Wo)(hG:GFAt w w.heap.size gb p m l lg)(hv:∀ x∈v,x<p ^ m)(hA:zI w A (nz v))(h0:0<v.length)(hl:v.length<=1000)(aa:v.getD (v.length-1) 0≠0):
 zC 235 #[zP gb,zL A v.length c] w fun e w'=>e=.returned (zS w.heap.size v.length v.length)/\Row w' w.heap.size w.heap.size v.length (nz v)/\zB w w':=by
 obtain⟨P,O,r,s,t⟩:=qaF infoInt;have R:=zH O;have K:=zH r;have L:=zH s;have C:=zH (show P.bytes*v.length<=281474976710656 by rw[t];omega);have D:=zH (show v.length<=maxLen by unfold maxLen;omega);have Q:=zH hA;have H:zK (∀x W,x<p^m->zB w W->zC 196 (Ct gb x) W fun e w'=>e=.returned (.bool true)/\W=w'):=fun x W hx z=>by have:=is_c (x:Int) gb p m w.heap.size l lg W (hG.keep z);rw[decide_eq_true (by omega:(0:Int)<=(x:Int)),decide_eq_true (by omega:(x:Int)<((p^m:Nat):Int))] at this;exact this
 have S:zK (∀k,k<v.length->v.getD k 0<p^m):=fun k B=>by
  have:v.getD k 0=v[k]:=by simp[List.getD,B]
  rw[this];exact hv _ (List.getElem_mem B)
 have J:zK (∀W,Row W w.heap.size w.heap.size v.length (nz v)->zC 255 #[zS w.heap.size v.length v.length] W fun e w'=>e=.returned (zS w.heap.size v.length v.length)/\W=w'):=fun W hr=>trim_keep v _ _ W (hr.ints hr.lt.2) h0 hl aa;clear O r s t hA hG hv aa;generalize p^m=q at *;go_enter func235,ntmps235;go_wp2_with (refine wpList_make_full w rfl (.tmp 9) (.tmp 9) 23 rfl w.heap.size 3 P (Y 0) 1 underlying23 R.o K.o L.o .i64 .i64 v.length v.length v.length rfl rfl rfl rfl C.o D.o zn ?_;intro V f n);have N:zK (RelCn w v (Y ((0:Nat):Int)) V):=⟨0,U0,rfl,by have:=Row.of_make f;exact this,qaL n⟩;clear f n;go_loopw [13] (fun v13 wr=>RelCn w v v13 wr) (fun v13 _=>v.length-(intOf v13).toNat);case atStart=>exact N.o
 case round =>
  obtain⟨k,B,rfl,g,z⟩:=hrel;have y:=zH g;have u:=zH z;clear g z N;by_cases d:k<v.length
  . obtain⟨b,o,rfl,T,U⟩:=(Q.o.keep u.o).at_ (k:=k) (by rw[qaA];exact d);rw[qaC] at U;have M:=S.o k d;have I:=zH (canK_set v k d);have k0:(0:Int)<=(k:Int):=U0;have k1:(k:Int)<(v.length:Int):=U0;have Z:IntKind.i64.wrap ((k:Int)+1)=(k:Int)+1:=IntWalk.i64_in _ U0;have y0:=y.o.cell (j:=k) (by rw[qaA,canK_len v k B];exact d);have X:=y.o.frozen k;generalize v.getD k 0=x at *;have E:=zH (H.o x wr M u.o);go_wp2_with fail;refine E.o.mono ?_;rintro e w' ⟨rfl,rfl⟩;go_wp2;go_roundw;case rel=>exact⟨k+1,U0,gn,by rw[<- I.o,<- qbC];exact y.o.set k x,u.o.setCell (p:=(zA w.heap.size k)) zn _⟩
    case measure=>simp[intOf];omega
  . (obtain rfl:k=v.length:=by omega);(have i:zK (Row wr w.heap.size w.heap.size v.length (nz v)):=by have h:=y.o;unfold canK at h;rw[List.take_length,Nat.sub_self,List.replicate_zero,List.append_nil] at h;exact h);have E:=zH (J.o wr i.o);go_wp2_with fail;refine E.o.mono ?_;rintro e w' ⟨rfl,rfl⟩;go_wp2;go_ret;exact⟨rfl,i.o,u.o⟩
abbrev Elt(q:Nat):={ x:Nat // x<q }
def eltV(q:Nat)(x:Elt q):Array Value:=#[Y (x.1:Int)]
theorem elems_stops(q C D:Nat)(L:q<=256)(w:Wo)(I:C<w.heap.size)(K:D<w.heap.size)(E:w.cell? (zA C 0)=some (zP D))(H:w.cell? (zA D 3)=some (Y (q:Int))):
 SeqStopsK Fence.wide 2 prog 236 #[zP C] (eltV q) (fun _ _=>True) (fun _=>True) (fun _=>True) q w:=by
 intro l J y W h s f i r;have c1:=(h.cell (p:=(zA C 0)) I).trans E;have c2:=(h.cell (p:=(zA D 3)) K).trans H;have n:=zH i;clear i E H s f;refine callsIn_of_wp func236 rfl trivial ?_;simp only[ntmps236,List.size_toArray,List.length_cons,List.length_nil,Nat.reduceAdd,Nat.reduceSub,Array.replicate_succ,Array.replicate_zero,List.push_toArray,List.append_toArray,List.nil_append,List.cons_append];gi_wp2;gi_loopw [8] (fun v8 wr=>∃(k:Nat)(b:List (Elt q)),k<=q/\v8=Y k/\b.length=k/\J b wr) (fun v8 _=>q-(intOf v8).toNat);case atStart=>exact⟨0,[],U0,rfl,rfl,r⟩
 case round =>
  obtain⟨k,b,A,rfl,u,j⟩:=hrel;by_cases c:k<q
  . obtain ⟨z,m,d,g,x,t⟩ := n.o b ⟨k,c⟩ wr j U0;dsimp only [eltV] at x;have B:(k:Int)<(q:Int):=U0;have v:IntKind.i64.wrap ((k:Int)+1)=(k:Int)+1:=IntWalk.i64_in _ U0;gi_wp2;refine t.mono ?_;rintro e W3 (⟨rfl,hJ3,_⟩|⟨rfl,hJx3⟩)
    . gi_wp2;go_roundw;case rel=>exact⟨k+1,b++[⟨k,c⟩],U0,gn,by simp[u],hJ3⟩
      case measure=>simp[intOf];omega
    . gi_wp2;refine bodyPost_ret (results_none rfl _ _ _) rfl ?_;exact⟨⟨_,rfl⟩,.inr ⟨_,trivial,hJx3⟩⟩
  . (obtain rfl:k=q:=by omega);gi_wp2;go_end0;exact⟨⟨_,rfl⟩,.inl ⟨_,trivial,j⟩⟩
theorem elements_f(v:Value)(w:Wo)(c:v=.pointer none\/∃b,v=zP b):
 zC 206 #[v] w fun e w'=>e=.returned (.func (.func 236) #[] #[zP w.heap.size])/\w'=w.alloc (.cells #[v] 100):=by
 rcases c with rfl|⟨b,rfl⟩
 . go_enter func206,ntmps206;go_wp2;go_ret;exact⟨rfl,rfl⟩
 . go_enter func206,ntmps206;go_wp2;go_ret;exact⟨rfl,rfl⟩
theorem keepsOthers_drewN(W:Wo)(n:Nat):KeepsOthers W (W.drewN n):=⟨Nat.le_refl _,fun _ _ h _=>h⟩
theorem Num.other{w w2:Wo}{B:Nat}{v:Value}{l:LN}{row:Option Nat}(h:Num w B v l)(d:w.grownBy w2 row)(c:∀b,v.ownBlock=some b->row≠some b):Num w2 B v l:=
 World.ownsRow.kept h d (by
  cases hv:v.ownBlock with
  |none=>exact .inl rfl
  |some b=>exact .inr (fun e=>c b hv e.symm))
theorem Num.cells{w:Wo}{B:Nat}{v:Value}{l:LN}(h:Num w B v l){b:Nat}(f:v.ownBlock=some b):∃cs fr,w.heap[b]?=some (.cells cs 3 fr)/\B<=b:=by
 rcases h.2 with⟨e,_⟩|⟨g,c,cur,e,_,d,_⟩
 . rw[e] at f;cases f
 . subst e;injection f with f;subst f;exact⟨_,_,d,(World.ownsRow.lt h g rfl).1⟩
theorem Num.ne{w:Wo}{B:Nat}{v:Value}{l:LN}(h:Num w B v l){b g:Nat}(k:v.ownBlock=some b){cs:Array Value}{t:TypeId}{fr:Nat × Nat}(i:w.heap[g]?=some (.cells cs t fr))(j:t≠3):b≠g:=fun e=>by
 subst e
 obtain⟨d,f,c,_⟩:=h.cells k
 rw[i] at c
 injection c with c
 injection c with _ c _
 exact j c
theorem Row.same{w w':Wo}{B g c:Nat}{zs:LI}(h:Row w B g c zs)(j:w'.heap[g]?=w.heap[g]?):Row w' B g c zs:=by obtain⟨cur,b,i,d,f⟩:=h.cur;exact f w' cur zs (j.trans b) rfl rfl d
theorem rowNe{w:Wo}{B:Nat}{row:Option Nat}(g:∀r,row=some r->B<=r/\∃o:Obj,w.heap[r]?=some o/\o.isCells=false){b:Nat}{cs:Array Value}{t:TypeId}{fr:Nat × Nat}(f:w.heap[b]?=some (.cells cs t fr)):row≠some b:=fun e=>by
 obtain⟨_,o,c,d⟩:=g b e
 rw[f] at c
 injection c with c
 subst c
 cases d
structure RtI (w:Wo) (B2 B6 B7 gb gs:Nat) (O:Ops) (v:LN) (q n:Nat) (W:Wo):Prop where
 b2:W.cell? (zA B2 0)=some (zP gb)
 b6:W.heap[B6]?=some (.cells #[zS gs v.length v.length] 23 (0,0))
 row:Row W w.heap.size gs v.length (nz v)
 out:∃(u:Value)(rs:LN),W.heap[B7]?=some (.cells #[u] 23 (0,0))/\Num W B6 u rs/\(∀r∈rs,r<q/\evN O v r=0)/\rs.length<=n
 low:zB w W
theorem RtI.mono{w:Wo}{B2 i j k l:Nat}{O:Ops}{v:LN}{q n m:Nat}{W:Wo}(h:RtI w B2 i j k l O v q n W)(o:n<=m):RtI w B2 i j k l O v q m W:=by obtain⟨u,f,b,c,d,g⟩:=h.out;exact⟨h.b2,h.b6,h.row,⟨u,f,b,c,d,U0⟩,h.low⟩
theorem RtI.drewN{w:Wo}{B2 i j l m:Nat}{O:Ops}{v:LN}{q n:Nat}{W:Wo}(h:RtI w B2 i j l m O v q n W)(k:Nat):RtI w B2 i j l m O v q n (W.drewN k):=by obtain⟨u,g,b,c,d,f⟩:=h.out;exact⟨h.b2,h.b6,h.row.below (qaB zV k) h.row.lt.2,⟨u,g,b,c.grow (qaB zV k),d,f⟩,qaB h.low k⟩
theorem RtI.own{w:Wo}{B2 p t x y:Nat}{O:Ops}{v:LN}{q:Nat}{B:Nat}(z:w.heap.size<=B):OwnFrom B (fun(pre:List (Elt q)) W=>RtI w B2 p t x y O v q pre.length W):=fun s W W' row h hg hr=>by
 have d:=fun r e=>(hr r e).2
 obtain⟨cur,j,_⟩:=h.row.cur
 obtain⟨u,m,c,f,g,i⟩:=h.out
 refine⟨cell_kept h.b2 hg d,(hg.block p (block_lt h.b6) (fun e=>rowNe hr h.b6 e.symm)).trans h.b6,h.row.grown hg (fun e=>rowNe hr j e.symm),⟨u,m,(hg.block t (block_lt c) (fun e=>rowNe hr c e.symm)).trans c,f.other hg (fun b hb=>?_),g,i⟩,h.low.grown hg h.low.size (fun k e=>Nat.le_trans z (hr k e).1)⟩
 obtain⟨n,o,l,_⟩:=f.cells hb
 exact rowNe hr l
def RootsPost(w:Wo)(O:Ops)(v:LN)(q:Nat)(e:Ending)(w':Wo):Prop:=
 (∃(VA:OA)(rs:LN)(ck:Nat),e=.returned (.tuple #[zL VA rs.length ck,Y 0])/\IntsUp w' w.heap.size VA (nz rs)/\∀r∈rs,r<q/\evN O v r=0)/\zB w w'
theorem roots_c(gb p m:Nat)(md l v:LN)(A:OA)(c:Nat)(w:Wo)(hF:FT p m md l)(hG:GFAt w w.heap.size gb p m l (logL l (p ^ m)))(hv:∀ x∈v,x<p ^ m)(hA:zI w A (nz v))(h0:0<v.length)(hl:v.length<=1000)(br:v.getD (v.length-1) 0≠0):
 zC 204 #[zP gb,zL A v.length c] w (RootsPost w (opsT p m l) v (p^m)):=by
 have bi:=hG.1;have a7:=hF.small.q;have HG:=zH hG;have HA:=zH hA;have aq:=zH<|fun W hW=>canon_keep gb p m l _ v A c W ((hG.keep hW).more hW.size) hv ((hA.keep hW).more hW.size) h0 hl br
 have ad:zK (∀(W:Wo)(x g:Nat),x<p^m->zB w W->Row W w.heap.size g v.length (nz v)->zC 162 #[zP gb,zS g v.length v.length,Y x] W (Quiet (Y ((evN (opsT p m l) v x:Nat):Int)) W)):=fun W x g hx hW L=>
  eval_c gb p m W.heap.size md l v x _ _ W hF ((hG.keep hW).more hW.size) hv hx (L.ints L.lt.2) hl
 have HO:zK (∀W,zB w W->W.cell? (zA gb 3)=some (Y ((p^m:Nat):Int))):=fun W hW=>by obtain⟨_,_,_,_,_,_,_,_,h3,_,_,_,_⟩:=(hG.keep hW).cells;exact h3
 clear hG hA hv br hF;have bo:¬((v.length:Int)=0):=U0;have bn:=beq_false_of_ne U0;generalize opsT p m l=O at *;generalize p^m=q at *;refine(callsIn_wide (n:=3)).1 (callsIn_of_wp_marks func204 rfl trivial (wpIn_wide.2 ?_));simp only[ntmps204,List.size_toArray,List.length_cons,List.length_nil,Nat.reduceAdd,Nat.reduceSub,Array.replicate_succ,Array.replicate_zero,List.push_toArray,List.append_toArray,List.nil_append,List.cons_append];have HX:=zH (bx_new w [zP gb] 100);go_upto_region 1 with fail;generalize w.alloc (.cells #[zP gb] 100)=W0 at *;have y2:W0.cell? (zA w.heap.size 0)=some (zP gb):=HX.o.cell rfl;go_wp2_with fail;(with_reducible refine(aq.o W0 HX.o.below).mono ?_);rintro e M ⟨rfl,hrow,hb1⟩;have az:=zH (HX.o.grow hb1);have ai:=zH (hrow.base (B':=w.heap.size) HX.o.below.size);have bj:=HX.o.2.2;have bm:=hrow.lt.2;clear hrow hb1 y2;generalize W0.heap.size=g at *;clear HX aq;clear W0;go_upto_region 2 with fail;have af:zK ((M.alloc (.cells #[zS g v.length v.length] 23)).heap[M.heap.size]?=some (.cells #[zS g v.length v.length] 23 (0,0))):=heap_alloc_new _ _;have an:zB M (M.alloc (.cells #[zS g v.length v.length] 23)):=zV.alloc zn _;have a0:=zH (az.o.grow an);have aj:=zH (ai.o.below an ai.o.lt.2);have a8:M.heap.size<(M.alloc (.cells #[zS g v.length v.length] 23)).heap.size:=U2;clear an az ai;generalize M.alloc (.cells #[zS g v.length v.length] 23)=f at *;generalize M.heap.size=z at *;clear M;have y6:f.cell? (zA z 0)=some (zS g v.length v.length):=cell_of_row _ _ 0 _ _ _ af.o;go_upto_region 5 with fail;clear y6;have V:zB f (f.alloc (.cells #[zL none 0 0] 23)):=zV.alloc zn _;have av:zK ((f.alloc (.cells #[zL none 0 0] 23)).heap[f.heap.size]?=some (.cells #[zL none 0 0] 23 (0,0))):=heap_alloc_new _ _;have al:=zH (a0.o.grow V);have ak:=zH (aj.o.below V aj.o.lt.2);have Z:=zH ((V.block z a8).trans af.o);have a9:f.heap.size<(f.alloc (.cells #[zL none 0 0] 23)).heap.size:=U2;clear V a0 aj af;generalize f.alloc (.cells #[zL none 0 0] 23)=w3 at *;generalize f.heap.size=i at *;clear f;have y2:w3.cell? (zA w.heap.size 0)=some (zP gb):=al.o.cell rfl;have ar:=zH (elements_f (zP gb) w3 (.inr ⟨gb,rfl⟩));go_wp2_with fail;go_fit ar.o;rintro e X ⟨rfl,hw4⟩;have E:zB w3 X:=by rw[hw4];exact zV.alloc zn _
 have ag:zK (X.cell? (zA w3.heap.size 0)=some (zP gb)):=by rw[hw4];exact cell_of_row _ _ 0 _ _ _ (heap_alloc_new _ _)
 have ba:w3.heap.size<X.heap.size:=by rw[hw4];simp
 have Q:=zH (al.o.grow E);have ae:zK (RtI w w.heap.size z i gb g O v q 0 X):=⟨Q.o.cell rfl,(E.block z U0).trans Z.o,ak.o.below E ak.o.lt.2,⟨zL none 0 0,[],(E.block i a9).trans av.o,Num.nil _ _,fun r L=>(by cases L),Nat.le_refl _⟩,Q.o.below⟩;have ah:=zH (HO.o X Q.o.below);clear hw4 E ar y2 al ak Z av Q;have a3:w.heap.size<=X.heap.size:=U0;generalize w3.heap.size=B8 at *;clear w3;go_upto_region 6 with fail
 refine(wpIn_wide (n:=3)).1 (wpIn_rangeFunc_ownF (F:=Fence.wide) (n:=3) (P:=prog) (α:=Elt q) (w:=X) (gf:=236) (lb:=#[zP B8]) rfl U0 rfl trivial (enters_of func236 U1 rfl)
  (encs:=eltV q) (Kp:=fun _ _=>True) (S:=fun _=>True) (Sp:=fun _=>True) (N:=q) (w0:=X) (elems_stops q B8 gb a7 X ba U0 ag.o ah.o) (fun _ _=>trivial) (fun _ _ _ _ _ _ _ _=>trivial) zV (fun _=>rfl)
  (fun ap W=>RtI w w.heap.size z i gb g O v q ap.length W) (fun _ _ _=>False) (RtI.own a3) (fun _ _ _ _ _ h _ _=>h.elim) ae.o (fun x=>{ tmps:=#[zP gb,zL A v.length c,zP w.heap.size,undef,zL none 0 0,Y 0,zP z,zP i,Y (x.1:Int),zP gb,zL A v.length c,zS g v.length v.length,zS g v.length v.length,Y (v.length:Int),.bool false,zP gb,.func (.func 236) #[] #[zP B8],Y (x.1:Int),undef,undef,undef,undef,undef,undef,undef,undef,undef,undef],defers:=[] }) ?assign ?body ?done ?stop)
 case assign=>intro l x W K hK;have a1:=fun ρ o h=>Oper.semAt_some l ρ o h;simp only[eltV];gi_wp2;exact hK
 case body =>
  intro l ap x W J bg;have a1:=fun ρ o h=>Oper.semAt_some l ρ o h;obtain⟨x,hx⟩:=x;have HC:=zH (ad.o W x g hx J.low J.row);have HI:=zH J;have b2:=J.b2;have b6:W.cell? (zA z 0)=some (zS g v.length v.length):=cell_of_row _ _ 0 _ _ _ J.b6;obtain⟨y,hy⟩:∃y,evN O v x=y:=⟨_,rfl⟩;rw[hy] at HC;have HY:=zH hy;clear J hy ad HO ah ae ag HG HA;gi_wp2;(try refine⟨trivial,?_⟩);refine(CallsIn.inRound l (callsIn_wide.2 HC.o)).mono ?_;rintro e I ⟨rfl,n,rfl⟩;have d:=zH (HI.o.drewN n);have aw:=zH<|keepsOthers_drewN W n
  clear HI HC b2 b6;generalize W.drewN n=I at *;by_cases bc:y=0
  . subst bc;obtain ⟨i0,a5,bd,be,bf⟩:=qaF infoInt;obtain ⟨u,s,U,B,h4,h5⟩:=d.o.out;obtain ⟨R,T,hu⟩:=B.slice;rw [hu] at U B;clear hu u;have y7:I.cell? (zA i 0)=some (zL R s.length T):=cell_of_row _ _ 0 _ _ _ U;have H1:=zH U;have H2:zK (Num (I.alloc (.cells #[Y (x:Int)] 3)) z (zL R s.length T) s):=World.ownsRow.alloc B _;have C:zK (∀ b,(Value.slice R s.length T).ownBlock=some b->b≠i/\b≠z/\z<=b):=fun b hb=>⟨B.ne hb U dc,B.ne hb d.o.b6 dc,by obtain ⟨_,_,_,h⟩:=B.cells hb;exact h⟩;have H4:=zH h4;have bb:=block_lt U;clear U B h4;gi_wp2_with (gi_at_builtin;refine wpListIn_append_own (I.alloc (.cells #[Y (x:Int)] 3)) rfl (.tmp 23) (.tmp 25) 23 rfl z 3 i0 _ 1 8 underlying23 a5 bd be bf rfl dc (zL R s.length T) s.length _ rfl H2.out (zA I.heap.size 0) 1 1 [Y (x:Int)] rfl rfl (World.news_of_block (cs:=#[Y (x:Int)]) (t:=3) (fr:=(0,0)) (heap_alloc_new _ _)) U3 U4 U0 so ?_;intro v' f H ao a6;obtain ⟨g',ab,rfl⟩:=ownsRow_succ H;have au:=zH ao;have aa:=zH<|Num.step H;have ax:zK (∀ b,b<I.heap.size->(Value.slice R s.length T).ownBlock≠some b->f.heap[b]?=I.heap[b]?):=fun b hb br=>(ao.block b so (fun e=>br e.symm)).trans (heap_alloc_old _ _ hb);have H7:=zH<|(ax.o i bb (fun e=>(C.o _ e).1 rfl)).trans H1.out;have bq:f.cell? (zA i 0)=some (zL R s.length T):=cell_of_row _ _ 0 _ _ _ H7.out;have f7:f.frozen? (zA i 0)=false:=(by simp [World.frozen?,H7.out]);clear H ao a6 y7);have ac:zK (∀ b,b<I.heap.size->b≠i->(Value.slice R s.length T).ownBlock≠some b->(f.setCell (zA i 0) (zS g' (s.length+1) ab)).heap[b]?=I.heap[b]?):=fun b hb h7 br=>(Below.heap_setCell f (zA i 0) _ b h7).trans (ax.o b hb br);obtain ⟨cg,bh,_⟩:=d.o.row.cur;have a2:=d.o.low.size;refine ⟨aw.o.trans ((KeepsOthers.alloc I _).trans ((KeepsOthers.of_grownBy au.o (fun j o e ho=>?_)).trans (KeepsOthers.setCell _ _ _))),trivial,⟨?_,?_,?_,⟨zS g' (s.length+1) ab,s++[x],heap_set_same H7.out 0 _,?_,?_,?_⟩,?_⟩⟩
    . obtain⟨cs,fr,hh,_⟩:=H2.out.cells e;rw[hh] at ho;injection ho with ho;subst ho;rfl
    . exact(World.cell?_of_block (a:=(zA w.heap.size 0)) (ac.o w.heap.size U0 U0 (fun e=>by have:=(C.o _ e).2.2;omega))).trans d.o.b2
    . exact(ac.o z U0 U0 (fun e=>(C.o _ e).2.1 rfl)).trans d.o.b6
    . exact d.o.row.same (ac.o g U0 U0 (fun e=>by have:=(C.o _ e).2.2;omega))
    . exact aa.o.other (grown_set f (zA i 0) _) (fun b hb e=>aa.o.ne hb H7.out dc (by injection e with e;exact e.symm))
    . intro r L;rcases List.mem_append.1 L with L|L
      . exact H4.out r L
      . (obtain rfl:r=x:=by simpa using L);exact⟨hx,HY.o⟩
    . simp;omega
    . exact((d.o.low.alloc a2 _).grown au.o so (fun k e=>by have:=(C.o _ e).2.2;omega)).setCell (p:=(zA i 0)) (by show _<=i;omega) _
  . have bp:((y:Int)==0)=false:=beq_false_of_ne U0;gi_wp2;exact⟨aw.o,trivial,d.o.mono U2⟩
 case done=>
  intro D xs W hD _ J hd;obtain⟨u,s,U,B,h4,h5⟩:=J.out;have y7:W.cell? (zA i 0)=some u:=cell_of_row _ _ 0 _ _ _ U
  have a4:zK (Num (W.putObj D (.deferred none)) z u s):=B.other (grownBy_putObj' W D _) (fun b hb e=>by
   injection e with e
   subst e
   obtain⟨cs,fr,hh,_⟩:=B.cells hb
   rw[hd] at hh
   cases hh)
  obtain⟨R,T,rfl⟩:=B.slice;have ay:zK (zB w (W.putObj D (.deferred none))):=below_putObj J.low U0 _;have H4:=zH h4;clear J U B h4 ad HO ah ae ag HG HA;go_wp2_with fail;refine⟨U2,.inl ⟨_,_,rfl,run_takeDeferred hd,?_⟩⟩;exact⟨_,results_tmp2 rfl _ _ _,⟨R,s,T,rfl,a4.o.up.lower U0,H4.out⟩,ay.o⟩
 case stop=>intro D c ap W _ _ h _;exact h.elim
theorem gfield_any(V B p m:Nat)(mod:LI)(l lg:LN)(w:Wo)(X:GFM w B V p m mod l lg)(Z:B<=w.heap.size)(hl:mod.length<=1000000):
 zC 234 #[zP V] w fun e w'=>(∃A' c',e=.returned (C7 p m A' mod.length c')/\IntsUp w' w.heap.size A' mod)/\zB w w':=by
 have i:zK (zB w (w.alloc (D2))):=zV.alloc zn _;have q:zK ((w.alloc (D2)).heap[w.heap.size]?=some (D2)):=heap_alloc_new _ _;have N:=X.1;have M:=zH X;clear X;go_enter func234,ntmps234;go_upto_region 1 with fail;generalize w.alloc (D2)=c at *;have u:=block_lt q.o;obtain⟨_,K,L,ge,O,R,Q,f,v,_,_⟩:=M.o.keep (i.o.mono Z);have n:=zH f;have D:=zH v
 have A:zK (∀W,LSt c W->W.cell? (zA V 0)=some (Y (p:Int))/\W.cell? (zA V 1)=some (Y (m:Int))/\W.cell? (zA V 2)=some (zL K mod.length L)):=fun W y=>
  have I:=(Below.block y V U0).trans n.o
  ⟨cell_of_row _ _ 0 _ _ _ I,cell_of_row _ _ 1 _ _ _ I,cell_of_row _ _ 2 _ _ _ I⟩
 have E:zK (LSt c c.drew):=zV.drew;have b:zB c ((c.alloc (.cells #[] 3)).drew):=(zV.alloc zn _).drew;obtain⟨A',c',J,g,x,t⟩:=run_copy_ints 23 c.heap.size K L mod ((c.alloc (.cells #[] 3)).drew) ((D.o.keep (b.mono U0)).more (by have:=b.size;omega)) hl;have z:=zH b;have s:=zH g;have H:=zH (x.lower b.size);have j:=zH<|b.trans (t.mono b.size)
 clear f v b g x t;refine qbM 18 (LSt c) [(true,0),(true,1),(true,2),(true,3),(true,4),(true,5),(true,6),(true,7),(true,8),(true,9),(true,11),(true,12),(true,13),(true,14),(true,15),(false,10),(false,16),(true,17)] default U1 U1 (fun _ _ d _ _ h=>by cases d<;>exact h) E.o ?_;simp only[List.map_cons,List.map_nil,List.getD_cons_zero,List.getD_cons_succ]
 iterate 15
  apply qcH rfl
  . intro W y
    obtain⟨S,T,U⟩:=A.o W y
    go_simp
    rfl
  go_simp
 apply mix_step rfl
 . go_simp;exact⟨rfl,rfl⟩
 . exact z.o
 go_simp;refine mix_step rfl (exec_append (.tmp 13) (.tmp 18) 23 rfl rfl rfl s.o) j.o ?_;go_simp;apply qcH rfl
 . intro W y;go_simp;rfl
 go_simp;refine qeJ ?_;have r:=zH<|(j.o.block _ u).trans q.o
 have C:zK ((J.setRow w.heap.size (Db p m A' mod.length c')).heap[w.heap.size]?=some (C3 p m A' mod.length c')):=setRow_same _ _ _ _ _ r.o;go_wp2_with (refine wpList_store_row rfl 29 (.tmp 2) (.tmp 20) rfl J w.heap.size 29 #[Y 0,Y 0,zL none 0 0] (Db p m A' mod.length c') rfl rfl r.o fieldSize rfl U3 ?_);refine bodyPost_ret (results_cell_row (P:=prog) rfl _ _ w.heap.size 29 (Db p m A' mod.length c') (0,0) _ rfl C.o underlying29 rfl fieldSize) rfl ?_;refine⟨⟨A',c',rfl,?_⟩,qaR (i.o.trans (j.o.mono i.o.size)) zn _⟩;exact(H.o.of_blocks U2 fun k hk _=>setRow_other J w.heap.size k _ U0).lower U0
theorem prime_c(j B p m:Nat)(mod:LI)(l n:LN)(w:Wo)(k:GFM w B j p m mod l n)(q:B<=w.heap.size)(r:mod.length<=1000000):
 zC 202 #[zP j] w fun e w'=>e=.returned (.tuple #[Y (p:Int),Y (m:Int)])/\zB w w':=by have f:=zH (gfield_any j B p m mod l n w k q r);clear k;go_enter func202,ntmps202;go_wp2_with fail;go_fit f.o;rintro e b ⟨⟨A',c',rfl,_⟩,hb⟩;have d:=zH hb;clear hb;go_upto_region 2 with(refine qaH rfl 29 (.tmp 4) (.tmp 6) rfl b _ (Db p m A' mod.length c') rfl rfl fieldSize rfl U3 ?_);have h:(b.alloc (C3 p m A' mod.length c')).cell? (zA b.heap.size 0)=some (Y (p:Int)):=cell_of_row _ _ 0 _ _ _ (heap_alloc_new _ _);have i:(b.alloc (C3 p m A' mod.length c')).cell? (zA b.heap.size 1)=some (Y (m:Int)):=cell_of_row _ _ 1 _ _ _ (heap_alloc_new _ _);have c:zK (zB w (b.alloc (C3 p m A' mod.length c'))):=d.o.alloc d.o.size _;generalize b.alloc (C3 p m A' mod.length c')=g at *;go_quiet (fail);go_wp2;go_ret2;exact⟨rfl,qaB c.o _⟩
def degB(m:Nat)(d:Int):Bool:=decide (1<=d) && (decide (d<=(m:Int)) && Int.tmod (m:Int) d==0)
theorem qfG(s B p m:Nat)(d:Int)(mod:LI)(l v:LN)(w:Wo)(u:GFM w B s p m mod l v)(y:B<=w.heap.size)(z:mod.length<=1000000)(_:m<=8):
 zC 203 (Ct s d) w fun e w'=>e=.returned (.bool (degB m d))/\zB w w':=by
 have f:=zH (prime_c s B p m mod l v w u y z);clear u;by_cases j:1<=d
 . (have g : ¬ d < 1 := by omega);by_cases k:d<=(m:Int)
   . (have h : ¬(m : Int)< d:=by omega);have q:¬d=0:=U0;(have b:zK (degB m d=(Int.tmod (m:Int) d==0)):=by show _=_;unfold degB;rw[decide_eq_true j,decide_eq_true k];rfl);go_enter func203,ntmps203;go_wp2_with fail;go_fit f.o;rintro e n ⟨rfl,hb⟩;obtain⟨t,r⟩:∃t,Int.tmod (m:Int) d=t:=⟨_,rfl⟩;rw[r] at b;by_cases c:t=0
     . subst c;go_wp2;go_ret;exact⟨by rw[b.o];rfl,hb⟩
     . have i:=beq_false_of_ne c;rw[i] at b;go_wp2;go_ret;exact⟨by rw[b.o];rfl,hb⟩
   . (have h:(m:Int)<d:=by omega);(have b:zK (degB m d=false):=by show _=_;unfold degB;rw[decide_eq_false k,Bool.false_and,Bool.and_false]);go_enter func203,ntmps203;go_wp2_with fail;go_fit f.o;rintro e n ⟨rfl,hb⟩;go_wp2;go_ret;exact⟨by rw[b.o];rfl,hb⟩
 . (have g:d<1:=by omega);(have b:zK (degB m d=false):=by show _=_;unfold degB;rw[decide_eq_false j,Bool.false_and]);go_enter func203,ntmps203;go_wp2_with fail;go_fit f.o;rintro e n ⟨rfl,hb⟩;go_wp2;go_ret;exact⟨by rw[b.o];rfl,hb⟩
theorem qfD{fn:Func}{p q:Tmp}(h:fn.results=#[.cell p 3,.cell q 41])(tmps:Array Value)(w:Wo)(g i:Nat)(u v:Value)(l:tmps.getD p undef=zP g)(m:tmps.getD q undef=zP i)(j:w.cell? (zA g 0)=some u)(k:w.cell? (zA i 0)=some v):(results fn tmps).run prog w=.ok (.tuple #[u,v]) w:=by
 have d:tmps[p]?.getD undef=zP g:=by simpa using l
 have f:tmps[q]?.getD undef=zP i:=by simpa using m
 have b:(loadVar 3 (zA g 0)).run prog w=.ok u w:=by simp[loadVar,isAgg,go_sem,run_underlying underlying3,j]
 have c:(loadVar 41 (zA i 0)).run prog w=.ok v w:=by simp[loadVar,isAgg,go_sem,run_underlying underlying41,k]
 simp[results,h,d,f,asAddr,b,c]
theorem fnew_full(p m:Int)(mod:LI)(A:OA)(c:Nat)(w:Wo)(b:zI w A mod)(d:mod.length<=9223372036854775807):
 zC 72 #[C7 p m A mod.length c] w fun e w'=>((fieldOK p m mod=false/\e=.returned (.tuple #[.pointer none,Y 1]))\/(fieldOK p m mod=true/\∃gb,e=.returned (.tuple (D4 gb))/\w.heap.size<=gb/\GFM w' w'.heap.size gb p.toNat m.toNat mod (lOf p m mod) (logL (lOf p m mod) (p.toNat^m.toNat))))/\zB w w':=by
 cases hok:fieldOK p m mod
 . exact(fnew_no p m mod A c w b d hok).mono fun e w' ⟨h1,h2⟩=>⟨.inl ⟨rfl,h1⟩,h2⟩
 . exact(fnew_any p m mod A c w b hok).mono fun e w' ⟨h1,h2⟩=>⟨.inr ⟨rfl,h1⟩,h2⟩
def RootOk(p m:Int)(mod:LI)(n x:Int):Prop:=fieldOK p m mod=true/\∃x':Nat,x=(x':Int)/\x'<p.toNat^m.toNat/\x'≠0/\n=((ordT (logL (lOf p m mod) (p.toNat^m.toNat)) (p.toNat^m.toNat) x':Nat):Int)
structure Bx4 (w:Wo) (fs:List Value) (n x z:Int) (W:Wo):Prop where
 k2:W.heap[w.heap.size]?=some (.cells fs.toArray 29 (0,0))
 k3:W.heap[w.heap.size+1]?=some (.cells #[Y n] 3 (0,0))
 k4:W.heap[w.heap.size+1+1]?=some (.cells #[Y x] 3 (0,0))
 k5:W.heap[w.heap.size+1+1+1]?=some (.cells #[Y z] 41 (0,0))
 low:zB w W
structure RotI (w:Wo) (fs:List Value) (n:Int) (B6 gb:Nat) (w2 W:Wo):Prop where
 bx:Bx4 w fs n 0 0 W
 b6:W.heap[B6]?=some (.cells #[zP gb] 100 (0,0))
 low:zB w2 W
theorem gorder_c(c B p m:Nat)(l f:LN)(w:Wo)(d:GFAt w B c p m l f):
 zC 120 #[zP c] w fun e w'=>e=.returned (Y ((p^m:Nat):Int))/\w=w':=by obtain⟨_,_,_,_,_,_,_,_,b,_,_,_,_⟩:=d.cells;generalize p^m=q at *;clear d;go_enter func120,ntmps120;go_wp2;go_ret;exact⟨rfl,rfl⟩
theorem digits_c(x N p m B:Nat)(l R:LN)(w:Wo)(O:Small p m)(P:GFAt w B N p m l R)(Q:B<=w.heap.size)(S:x<p ^ m):
 zC 205 (Ct N x) w fun e w'=>(∃g,e=.returned (zS g m m)/\Row w' w.heap.size g m (nz (digs p m x)))/\zB w w':=by
 have n:zK (∀W,LSt w W->zC 158 (Ct N x) W fun e w'=>e=.returned (Y x)/\W=w'):=fun W r=>in_c x N p m B l R W (P.keep (Below.mono r Q)) S;have f:zK (∀W,LSt w W->W.cell? (zA N 0)=some (Y (p:Int))/\W.cell? (zA N 1)=some (Y (m:Int))):=fun W r=>by obtain⟨_,C,K,D,ge,E,I,H,t,_,_⟩:=P.keep (Below.mono r Q);exact⟨cell_of_row _ _ 0 _ _ _ t,cell_of_row _ _ 1 _ _ _ t⟩
 have J:=O.q;have y:=O.p1;have z:=O.p2;have v:=O.m2;have j:=zH<|fun W=>qdD x p m W U0 U0 U0 U0
 have b:zK (LSt w w.drew):=zV.drew;clear P O;go_enter func205,ntmps205;go_upto_region 1 with fail;refine qbM 14 (LSt w) [(true,0),(true,1),(true,3),(true,4),(true,5),(true,6),(true,7),(true,8),(true,9),(true,10),(true,11),(true,12),(false,2),(false,13)] default U1 U1 (fun _ _ d _ _ h=>by cases d<;>exact h) b.o ?_;have k:=zH (n.o w.drew b.o);generalize w.drew=u at *;simp only[List.map_cons,List.map_nil,List.getD_cons_zero,List.getD_cons_succ]
 iterate 12
  apply qcH rfl
  . intro W r
    obtain⟨L,M⟩:=f.o W r
    go_simp
    rfl
  go_simp
 apply qcE rfl
 . go_simp;exact⟨rfl,rfl⟩
 with_reducible refine k.o.mono ?_
 rintro e w' ⟨rfl,rfl⟩;refine⟨_,rfl,b.o,?_⟩;go_simp;apply qcE rfl
 . go_simp;exact⟨rfl,rfl⟩
 have i:=zH (j.o u);with_reducible refine i.o.mono ?_
 rintro e A ⟨rfl,hrow,hb⟩;have c:zK (LSt w A):=Below.trans b.o (hb.mono (Below.size b.o));have s:=zH (hrow.base (Below.size b.o));refine⟨_,rfl,c.o,?_⟩;go_simp;refine qeJ ?_;clear hrow hb i k j n f;go_wp2;go_ret;exact⟨⟨_,rfl,s.o⟩,c.o⟩
def pwN(O:Ops)(r:Nat):Nat->Nat
 |0=>1
 |k+1=>O.mul (pwN O r k) r
def pwL(O:Ops)(r n:Nat):LN:=(List.range n).map (pwN O r)
theorem qcU(O:Ops)(r n:Nat):(pwL O r n).length=n:=by simp[pwL]
theorem pwL_succ(O:Ops)(r n:Nat):pwL O r (n+1)=pwL O r n++[pwN O r n]:=by simp[pwL,List.range_succ]
theorem pwL_at(O:Ops)(r n k:Nat)(h:k<n):(pwL O r n).getD k 0=pwN O r k:=by simp[pwL,List.getD,h]
theorem pwN_lt{O:Ops}{q r:Nat}(c:∀x y,x<q->y<q->O.mul x y<q)(b:1<q)(d:r<q):∀k,pwN O r k<q
 |0=>b
 |k+1=>c _ _ (pwN_lt c b d k) d
def imN(O:Ops)(p m1 r x:Nat):Nat:=Dv.dotO O 0 (digs p m1 x) (pwL O r m1)
def EmbPost(w:Wo)(p1 m1:Int)(mod1:LI)(p:Nat)(O:Ops)(q:Nat)(e:Ending)(w':Wo):Prop :=
 (∃(A : OA)(n c : Nat)(z : Int),e = .returned (.tuple (D6 A n c z))/\(z = 0->fieldOK p1 m1 mod1 = true/\p1 = (p : Int)/\n = p1.toNat^m1.toNat/\
   ∃r,r<q/\(m1=1\/evN O (mdOf m1 mod1++[1]) r=0)/\zI w' A (nz ((List.range n).map (imN O p m1.toNat r)))))/\zB w w'
def RelEm(w:Wo)(f:Nat->Nat)(n go lo:Nat)(v82:Value)(wr:Wo):Prop:=
 ∃k:Nat,k<=n/\v82=Y k/\Row wr lo go n (nz (scK f (List.range n) k))/\Below lo w wr
end Go.Proofs.YtocbdafcolbfeaaGreat
