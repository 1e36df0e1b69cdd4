/- Parts of the proof. -/
import Derived.Test.YtkcdlealipfnbaaGreatR23
import Derived.Test.YtkcdlealipfnbaaGreatR24
set_option maxRecDepth 100000
set_option maxHeartbeats 8000000
namespace Go.Proofs.YtkcdlealipfnbaaGreat
open Go.RowKit Pln Go.Proofs.Tryz
def nzIx:LN->Nat->Int
 |[],_=>-1
 |x :: r,k=>if x=0 then nzIx r (k+1) else k
theorem nzIx_step{v:LN}{k:Nat}(b:k<v.length):nzIx (v.drop k) k=if v.getD k 0=0 then nzIx (v.drop (k+1)) (k+1) else(k:Int):=by
 rw[List.drop_eq_getElem_cons b];have:v.getD k 0=v[k]:=by simp[List.getD,b]
 rw[this];rfl
def RelNx(v:LN)(w:Wo)(r:Int)(v8:Value)(wr:Wo):Prop:=∃k:Nat,k<=v.length/\v8=Y k/\nzIx (v.drop k) k=r/\wr=w
theorem indexnz_c(f:Nat)(C:∀ (x:Int)(W:Wo),zC f #[Y x] W fun e w'=>e=.returned (.bool (x != 0))/\W=w')(D:∀ (args:Array Value)(W:Wo),(callFunc f args).run prog W=.ok (.enter f args) W)(v:LN)(A:OA)(c:Nat)(w:Wo)(B:zI w A (nz v))(E:v.length<=1000):
 zC 99 #[zL A v.length c,.func (.func f) #[] #[]] w fun e w'=>e=.returned (Y (nzIx v 0))/\w=w':=by
 have l:=zH B;have n:=zH C;have g:zK (RelNx v w (nzIx v 0) (Y ((0:Nat):Int)) w):=⟨0,U0,rfl,rfl,rfl⟩;clear B C;generalize nzIx v 0=r at *;go_enter func99,ntmps99;go_wp2;go_loopw [8] (fun v8 wr=>RelNx v w r v8 wr) (fun v8 _=>v.length-(intOf v8).toNat);case atStart=>exact g.o
 case round =>
  obtain⟨k,u,rfl,i,rfl⟩:=hrel;clear g;by_cases h:k<v.length
  . obtain ⟨b,o,rfl,t,p⟩ := l.o.at_ (k := k) (by rw [qaA];exact h);rw [qaC] at p;have y:(0:Int)<=(k:Int):=U0;have z:(k:Int)<(v.length:Int):=U0;have q:IntKind.i64.wrap ((k:Int)+1)=(k:Int)+1:=IntWalk.i64_in _ U0;(have d:zK ((if v.getD k 0=0 then nzIx (v.drop (k+1)) (k+1) else (k:Int))=r):=by rw [<- nzIx_step h];exact i);clear i;generalize v.getD k 0=x at *;have m:=zH (n.o (x:Int) wr);go_wp2_with fail;refine m.o.mono ?_;rintro e w' ⟨rfl,rfl⟩;by_cases j:x=0
    . rw[if_pos j] at d;subst j;go_wp2;go_roundw;case rel=>exact⟨k+1,U0,U3,d.o,rfl⟩
      case measure=>simp[intOf];omega
    . rw[if_neg j] at d;(have s:((x:Int) != 0)=true:=by rw[bne_iff_ne];omega);go_wp2;go_ret;have e:=d.o;exact⟨by rw[<- e];rfl,rfl⟩
  . (obtain rfl:k=v.length:=by omega);(have d:zK ((-1:Int)=r):=by rw[List.drop_eq_nil_of_le zn] at i;exact i);clear i;go_wp2;go_ret;have e:=d.o;exact⟨by rw[<- e];rfl,rfl⟩
theorem itself1_c(x:Int)(W:Wo):zC 56 #[Y x] W fun e w'=>e=.returned (.bool (x != 0))/\W=w':=by go_enter func56,ntmps56;go_wp2;go_ret;exact⟨rfl,rfl⟩
theorem columns1_c(x:Int)(W:Wo):zC 100 #[Y x] W fun e w'=>e=.returned (.bool (x != 0))/\W=w':=by go_enter func100,ntmps100;go_wp2;go_ret;exact⟨rfl,rfl⟩
theorem containsnz_c(v:LN)(A:OA)(c:Nat)(w:Wo)(d:zI w A (nz v))(f:v.length<=1000):
 zC 55 #[zL A v.length c,.func (.func 56) #[] #[]] w fun e w'=>e=.returned (.bool (decide (0<=nzIx v 0)))/\w=w':=by have b:=zH (indexnz_c 56 itself1_c (enters_of func56 U1 rfl) v A c w d f);clear d;generalize nzIx v 0=r at *;go_enter func55,ntmps55;go_wp2_with fail;refine b.o.mono ?_;rintro e w' ⟨rfl,rfl⟩;go_wp2;go_ret;exact⟨rfl,rfl⟩
theorem rep_code{r low:Int}{G:Nat}{w W:Wo}(h:SB w w.heap.size (repC r low G) W):W.rangeAt w.heap.size 1 (Cb 2 1 3 G 1 1):=
 h.sub 1 _ fun j hj=>by
  have b:j<5:=hj
  match j,b with
  |0,_=>rfl
  |1,_=>rfl
  |2,_=>rfl
  |3,_=>rfl
  |4,_=>rfl
theorem itself_15(G R C D:Nat)(w:Wo)(A:w.cell? (zA G 0)=some (zL (some (zA R C)) 3 D))(B:∀j,j<3->w.cell? (zA R (C+j))=some (Y 1)):
 zC 28 #[.agg (repC 15 4 G).toArray] w (BPost false w):=by
 have c:=zH (sb_new w (repC 15 4 G));have d:=zH A;have f:=zH B;clear A B;go_enter func28,ntmps28;go_upto_region 1 with fail;generalize w.alloc (.cells (repC 15 4 G).toArray 40)=t at *;have y:t.cell? (zA w.heap.size 0)=some (Y 15):=c.o.cell rfl;have h:=zH<|rep_code c.o
 have u:=World.block_lt_of_cell? w _ d.o;have v:=World.block_lt_of_cell? w _ (f.o 0 U0);simp only at u v;have s:=zH (eweights_c G R C D t ((c.o.2.1.cell (p:=(zA G 0)) u).trans d.o) (fun j k=>(c.o.2.1.cell (p:=(zA R (C+j))) v).trans (f.o j k)));go_wp2_with (refine wpList_load_mid rfl 32 (.tmp 113) rfl w.heap.size 1 rfl (Cb 2 1 3 G 1 1) _ h.o underlying32 rfl codeSize ?_);refine s.o.mono ?_;rintro e n ⟨g,rfl,hI,m⟩;have i:=zH (c.o.grow m);have x:=zH hI;clear m hI s h y c;have z:n.cell? (zA w.heap.size 6)=some (Y 4):=i.o.cell rfl
 have r:zK (zC 55 #[zL (some (zA g 1)) 3 3,.func (.func 56) #[] #[]] n fun e w'=>e=.returned (.bool (decide (0<=nzIx [0,0,1] 0)))/\n=w'):=containsnz_c [0,0,1] (some (zA g 1)) 3 n (fun _=>by
  obtain⟨b,o,q,m,k⟩:=x.o (by rw[qaA];decide)
  injection q with q
  injection q with e1 e2
  subst e1
  subst e2
  refine⟨g,1,rfl,m,fun j hj3=>?_⟩
  have l:j<3:=hj3
  match j,l with
  |0,_=>exact k 1 (by rw[qaA];decide)
  |1,_=>exact k 2 (by rw[qaA];decide)
  |2,_=>exact k 3 (by rw[qaA];decide)) U2
 go_wp2_with fail;refine r.o.mono ?_;rintro e w' ⟨rfl,rfl⟩;have hd:decide (0<=nzIx [0,0,1] 0)=true:=rfl;rw[hd];clear hd r;go_wp2;go_ret;exact⟨rfl,i.o.2.1⟩
theorem run_copy_ints(C:TypeId)(z:Nat)(A:OA)(c:Nat)(zs:LI)(W:Wo)(D:zI W A zs)(E:zs.length<=1000000):
 ∃(A':OA)(c':Nat)(w':Wo),(Builtin.append_ #[23,23] C #[zS z 0 0,zL A zs.length c]).run prog W=.ok (zL A' zs.length c') w'/\IntsUp w' W.heap.size A' zs/\zB W w':=by
 obtain⟨x,r,n,p,q⟩:=qaF infoInt;by_cases s:zs.length=0
 . refine⟨some (zA z 0),0,W,?_,fun h=>absurd h U0,Below.refl _ _⟩;rw[s];cases A<;>simp[Builtin.append_,run_underlying underlying23,sizeOf,typeInfo,r,Builtin.lenOf,Builtin.firstCells,storeCells,loadCells,loadCellsFrom]
 . obtain⟨b,o,rfl,t,v⟩:=D U0;obtain⟨y,w',i,d,f⟩:=run_append_arg_grows (P:=prog) W 23 C 3 x _ 1 8 underlying23 r n p q rfl dc (zA z 0) 0 0 [] rfl (fun j u hj=>by simp at hj) (zA b o) zs.length c (zs.map (Value.int .i64)) U2 (IntsAt.news (B:=W.heap.size) (fun hz=>⟨b,o,rfl,t,v⟩)) U0 ml U0;obtain⟨g,cap,rfl,l,m⟩:=d.form U0;refine⟨some (zA g 0),cap,w',by rw[i];simp,fun _=>⟨g,0,rfl,l,m,fun j hj=>?_⟩,⟨f.os,f.tape,f.output,f.size,fun k hk=>f.block k hk U2⟩⟩;have:=d.cells (g:=g) rfl j (Y (zs.getD j 0)) (by simp[List.getD,hj]);rw[Addr.add_mid] at this;exact this
theorem exec_append{P:Program}{o:Oper}{a:Act}(s x:Operand)(t:TypeId)(b:o.op=.call { callee:=.builtin .append,args:=#[s,x],argTypes:=#[t,t] }){v1 v2:Value}(c:a.eval s=v1)(d:a.eval x=v2){W w':Wo}{v:Value}(h:(Builtin.append_ #[t,t] o.type #[v1,v2]).run P W=.ok v w'):(execOp a.eval o).run P W=.ok (.value v) w':=by unfold execOp;simp only[b,resolve,invoke,builtin,Sem.run_bind,Sem.run_pure,Result.andThen_ok,List.map_toArray,List.map_cons,List.map_nil,c,d,h]
def B2(w:Wo)(cs:List Value)(t:TypeId)(ds:List Value)(u:TypeId)(W:Wo):Prop:=
 W.heap[w.heap.size]?=some (.cells cs.toArray t (0,0))/\W.heap[w.heap.size+1]?=some (.cells ds.toArray u (0,0))/\zB w W/\w.heap.size+1<W.heap.size
section
variable {w:Wo} {cs ds:List Value} {t u:TypeId} {W W':Wo}
theorem B2.grow(h:B2 w cs t ds u W)(g:zB W W'):B2 w cs t ds u W':=by obtain⟨c,d,f,b⟩:=h;exact⟨(g.block _ U0).trans c,(g.block _ b).trans d,f.trans (g.mono U0),Nat.lt_of_lt_of_le b g.size⟩
theorem B2.below(h:B2 w cs t ds u W):zB w W:=h.2.2.1
theorem B2.cell(h:B2 w cs t ds u W){k:Nat}{v:Value}(b:cs[k]?=some v):W.cell? (zA w.heap.size k)=some v:=by rw[cell_of_row W w.heap.size k _ _ _ h.1];simpa using b
theorem B2.range(h:B2 w cs t ds u W):W.rangeAt w.heap.size 0 cs:=range_of_row h.1
theorem B2.field{a b c:Value}{l:List Value}(h:B2 w (a :: b :: c :: l) t ds u W):W.rangeAt w.heap.size 0 [a,b,c]:=fun j v hv=>by
 match j,hv with
 |0,hv=>exact h.range 0 v hv
 |1,hv=>exact h.range 1 v hv
 |2,hv=>exact h.range 2 v hv
 |j+3,hv=>simp at hv
theorem B2.set(h:B2 w cs t ds u W)(b:List Value):B2 w cs t b u (W.setRow (w.heap.size+1) b.toArray):=
 ⟨(setRow_other W _ _ _ U0).trans h.1,setRow_same W _ _ _ _ h.2.1,qaR h.2.2.1 U0 _,by simpa using h.2.2.2⟩
end
theorem b2_new(w:Wo)(cs:List Value)(t:TypeId)(ds:List Value)(u:TypeId):B2 w cs t ds u ((w.alloc (.cells cs.toArray t)).alloc (.cells ds.toArray u)):=
 ⟨(Below.heap_alloc _ _ _ U2).trans (heap_alloc_new _ _),alloc_at U2 _,(zV.alloc zn _).alloc U2 _,U2⟩
def FieldPost(w:Wo)(p m:Int)(zs:LI)(e:Ending)(w':Wo):Prop:=
 (∃(A':OA)(c':Nat),e=.returned (C6 p m A' zs.length c')/\IntsUp w' w.heap.size A' zs)/\zB w w'
theorem rfield_c(p m:Int)(zs:LI)(A:OA)(c:Nat)(w:Wo)(M:zI w A zs)(N:zs.length<=1000000):
 zC 92 #[C6 p m A zs.length c] w (FieldPost w p m zs):=by
 have u:=zH (b2_new w (C7 p m A zs.length c) 29 [Y 0,Y 0,zL none 0 0] 29);have z:=zH M;clear M;go_enter func92,ntmps92;go_upto_region 1 with fail;generalize (w.alloc (C3 p m A zs.length c)).alloc (Cw)=C at *;have j:=zH<|u.o.grow zV.drew
 have s:zK (∀W,B2 w (C7 p m A zs.length c) 29 [Y 0,Y 0,zL none 0 0] 29 W->W.cell? (zA w.heap.size 0)=some (Y p)/\W.cell? (zA w.heap.size 1)=some (Y m)/\W.cell? (zA w.heap.size 2)=some (zL A zs.length c)):=fun W h=>⟨h.cell rfl,h.cell rfl,h.cell rfl⟩;refine qaS 9 9 (B2 w (C7 p m A zs.length c) 29 [Y 0,Y 0,zL none 0 0] 29) [(1,0),(0,1),(1,2),(0,3),(1,5),(0,6),(2,4),(2,7),(1,8)] default U1 U1 (fun _ _ d _ _ h=>by cases d<;>exact h) j.o ?_;simp only[List.map_cons,List.map_nil,List.getD_cons_zero,List.getD_cons_succ];generalize C.drew=l at *;clear u
 iterate 3
  apply qaM rfl
  . intro W
    go_simp
    rfl
  go_simp
  apply qbF rfl
  . intro W E
    obtain⟨J,K,L⟩:=s.o W E
    go_simp
    rfl
  go_simp
 have b:zK (B2 w (C7 p m A zs.length c) 29 [Y 0,Y 0,zL none 0 0] 29 (l.alloc (.cells #[] 3))):=j.o.grow (zV.alloc zn _);apply qdM rfl (v:=zS l.heap.size 0 0) (w':=l.alloc (.cells #[] 3))
 . go_simp
 . exact b.o
 go_simp;generalize l.heap.size=D at *;generalize l.alloc (.cells #[] 3)=y at *;obtain⟨i,n,w',f,r,q⟩:=run_copy_ints 23 D A c zs y ((z.o.keep b.o.below).more b.o.below.size) N;have g:=zH (b.o.grow q);refine qdM rfl (exec_append (.tmp 7) (.tmp 9) 23 rfl rfl rfl f) g.o ?_;go_simp;have t:=zH r;clear f r q;apply qaM rfl
 . intro W;go_simp;rfl
 go_simp;refine qbH ?_;show wpList _ _ _ _ _ _;go_simp;have B:=zH g.o.2.1;have x:=zH (g.o.set (C7 p m i zs.length n));have H:=b.o.2.2.2;go_wp2_with (refine wpList_store_row rfl 29 (.tmp 2) (.tmp 11) rfl w' (w.heap.size+1) 29 #[Y 0,Y 0,zL none 0 0] #[Y p,Y m,zL i zs.length n] rfl rfl B.o fieldSize rfl sc ?_);refine bodyPost_ret (results_cell_row (P:=prog) rfl _ _ (w.heap.size+1) 29 #[Y p,Y m,zL i zs.length n] (0,0) _ rfl x.o.2.1 underlying29 rfl fieldSize) rfl ?_;refine⟨⟨i,n,rfl,?_⟩,x.o.below⟩;have I:IntsUp (w'.setRow (w.heap.size+1) #[Y p,Y m,zL i zs.length n]) y.heap.size i zs:=t.o.of_blocks U2 fun k hk _=>setRow_other w' (w.heap.size+1) k _ U0;exact I.lower U0
def MakePost(w:Wo)(p m:Int)(zs:LI)(cols:Nat)(e:Ending)(w':Wo):Prop:=
 (∃(A':OA)(c':Nat)(G:OA)(R:LL)(k:Nat),e=.returned (Ca p m A' zs.length c' cols G R.length k)/\IntsUp w' w.heap.size A' zs/\RowsUp w' w.heap.size G (nzs R)/\R.length<=256)/\zB w w'
theorem rmake_c(p m:Nat)(md:LN)(A:OA)(zs:LI)(c:Nat)(rows:LL)(L:OA)(c2 cols:Nat)(w:Wo)(Q:RFld p m md A zs.length w.heap.size w)(R:∃l,FT p m md l)(T:zI w A zs)(M:zs.length<=1000000)(K:Grid (p^m) rows.length cols rows)(N:zR w L (nzs rows))(U:1<=cols)(V:cols<=256)(S:rows.length<=256):
 zC 44 #[C6 p m A zs.length c,zL L rows.length c2,Y cols] w (MakePost w p m zs cols):=by
 have n:=zH (b2_new w (C7 p m A zs.length c) 29 (Cu) 32);have C:=zH T
 have h:=zH<|fun W hW=>
  rcanon_c p m md A zs.length c rows L c2 cols W ((Q.keep hW).more hW.size) R K ((N.keep hW).more hW.size) U V S
 have v:(canonM (refOps p m md) rows cols).length<=256:=by rw[canonM_len];exact Nat.le_trans (elGo_piv (O:=refOps p m md) rows cols).2 S
 clear Q R K N T;generalize (elGo (refOps p m md) rows cols).piv=J at *;generalize canonM (refOps p m md) rows cols=f at *;go_enter func44,ntmps44;go_upto_region 1 with fail;generalize (w.alloc (C3 p m A zs.length c)).alloc (Ci)=y at *;have d:=zH n.o.range;have g:=zH (h.o y n.o.below);go_wp2_with (refine wpList_load_mid rfl 29 (.tmp 3) rfl w.heap.size 0 rfl (C7 p m A zs.length c) _ d.o underlying29 rfl fieldSize ?_);go_fit g.o;rintro e z ⟨⟨A',ck,VA,c3,rfl,hra,_⟩,hb1⟩;have b:=zH (n.o.grow hb1);have t:=zH hra;have u:=zH n.o.2.2.2;clear hb1 hra g n d h;have d:=zH b.o.range;have i:=zH (rfield_c p m zs A c z ((C.o.keep b.o.below).more b.o.below.size) M);go_upto_region 2 with fail;go_wp2_with (refine wpList_load_mid rfl 29 (.tmp 3) rfl w.heap.size 0 rfl (C7 p m A zs.length c) _ d.o underlying29 rfl fieldSize ?_);go_fit i.o;rintro e r ⟨⟨B',c',rfl,hia⟩,hb2⟩;have q:=zH (b.o.grow hb2);have j:=zH (t.o.grow hb2);have s:=zH hia;have B:=zH q.o.2.1;have x:=zH (q.o.set (C2 p m B' zs.length c' cols A' f.length ck));clear hb2 hia i;go_wp2_with (refine wpList_store_row rfl 32 (.tmp 6) (.tmp 20) rfl r (w.heap.size+1) 32 (Ct) (Cd p m B' zs.length c' cols A' f.length ck) rfl rfl B.o codeSize rfl sc ?_);refine bodyPost_ret (results_cell_row (P:=prog) rfl _ _ (w.heap.size+1) 32 (Cd p m B' zs.length c' cols A' f.length ck) (0,0) _ rfl x.o.2.1 underlying32 rfl codeSize) rfl ?_;have D:=u.o;have E:=b.o.2.2.2;have H:IntsUp (r.setRow (w.heap.size+1) (Cd p m B' zs.length c' cols A' f.length ck)) z.heap.size B' zs:=s.o.of_blocks U2 fun k hk _=>setRow_other r (w.heap.size+1) k _ U0;have I:RowsUp (r.setRow (w.heap.size+1) (Cd p m B' zs.length c' cols A' f.length ck)) y.heap.size A' (nzs f):=j.o.of_blocks U2 fun k hk _=>setRow_other r (w.heap.size+1) k _ U0;exact⟨⟨B',c',A',f,ck,rfl,H.lower U0,I.lower U0,v⟩,x.o.below⟩
section
variable {P:Program} {S:Wo->Prop} {K:Act->Wo->Prop} {o:Oper} {r:List (Nat × Oper)} {a:Act} {w:Wo}
end
theorem qaP{P:Program}{b:Array Oper}{rest:List Oper}{o:Oper}{a:Act}{w:Wo}{Q:Exit->Act->Wo->Prop}(c:o.guard=none)(s x:Operand)(t:TypeId)(d:o.op=.call { callee:=.builtin .append,args:=#[s,x],argTypes:=#[t,t] }){v1 v2 v:Value}{w':Wo}(g:a.eval s=v1)(i:a.eval x=v2)(f:(Builtin.append_ #[t,t] o.type #[v1,v2]).run P w=.ok v w')(h:wpList P b Q rest (a.put o.dst v) w'):wpList P b Q (o :: rest) a w:=
 wpList_plain c fun K hK=>by
  unfold Oper.wp execOp
  simp only[d,resolve,invoke,builtin,Sem.run_bind,Sem.run_pure,Result.andThen_ok,List.map_toArray,List.map_cons,List.map_nil,g,i,f]
  exact hK _ _ h
theorem clone_any(zs:LI)(A:OA)(c:Nat)(w:Wo)(p:zI w A zs)(q:zs.length<=1000000):
 zC 74 #[zL A zs.length c] w fun e w'=>(∃(A':OA)(c':Nat),e=.returned (zL A' zs.length c')/\IntsUp w' w.heap.size A' zs)/\zB w w':=by
 rcases Nat.eq_zero_or_pos zs.length with h0|h0
 . have l : zs = []:=List.length_eq_zero_iff.1 h0;subst l;have f:∀(W:Wo)(A':OA),IntsUp W w.heap.size A' []:=fun W A' h=>absurd h U2;clear p q h0;cases A with
   |none=>have k:∀(W:Wo),(binOp .eql 23 (zL none 0 c) (zL none 0 0)).run prog W=.ok (.bool true) W:=fun W=>Lib.run_eql_slice_nil W 23 3 none 0 c 0 0 underlying23;go_enter func74,ntmps74;go_wp2;go_ret;exact⟨⟨none,0,rfl,f _ _⟩,Below.refl _ _⟩
   |some ad=>have k:∀(W:Wo),(binOp .eql 23 (zL (some ad) 0 c) (zL none 0 0)).run prog W=.ok (.bool false) W:=fun W=>Lib.run_eql_slice_nil W 23 3 (some ad) 0 c 0 0 underlying23;have m:zK (zB w (w.alloc (.cells #[] 3))):=zV.alloc zn _;obtain⟨A',c',w',b,_,n⟩:=run_copy_ints 23 w.heap.size (some ad) c [] (w.alloc (.cells #[] 3)) (fun h=>absurd h U2) U2;have d:=zH b;have i:=zH (m.o.trans (n.mono m.o.size));clear b n;go_enter func74,ntmps74;go_wp2_with (at_builtin;refine qaP rfl (.tmp 5) (.tmp 6) 23 rfl rfl rfl d.o ?_);go_ret;exact⟨⟨A',c',rfl,f _ _⟩,i.o⟩
 . exact(sclone_c zs A c w p h0 q).mono fun e w' ⟨⟨g,c',h1,h2⟩,h3⟩=>⟨⟨_,c',h1,fun hz=>⟨g,0,rfl,h2.lt.1,h2.lt.2,fun j hj=>by rw[Nat.zero_add];exact h2.cell hj⟩⟩,h3⟩
theorem own_any(p m:Int)(mod:LI)(C:OA)(D:Nat)(w:Wo)(E:zI w C mod)(H:mod.length<=1000000):
 zC 201 #[C6 p m C mod.length D] w fun e w'=>(∃(A':OA)(c':Nat),e=.returned (C6 p m A' mod.length c')/\IntsUp w' w.heap.size A' mod)/\zB w w':=by
 have b:zK (zB w ((w.alloc (C3 p m C mod.length D)).alloc (Cw))):=(zV.alloc zn _).alloc U2 _;have c:zK (w.heap.size+1<((w.alloc (C3 p m C mod.length D)).alloc (Cw)).heap.size):=by show _ < _;simp
 have j:zK (((w.alloc (C3 p m C mod.length D)).alloc (Cw)).heap[w.heap.size]?=some (.cells (C7 p m C mod.length D).toArray 29 (0,0))):=(heap_alloc_old _ _ U2).trans (heap_alloc_new _ _);have l:zK (((w.alloc (C3 p m C mod.length D)).alloc (Cw)).heap[w.heap.size+1]?=some (Cw)):=alloc_at U2 _;have s:=zH E;clear E;go_enter func201,ntmps201;go_wp2_with fail;generalize (w.alloc (C3 p m C mod.length D)).alloc (Cw)=u at *;have r:=zH (clone_any mod C D u ((s.o.keep b.o).more b.o.size) H);go_fit r.o;rintro e d ⟨⟨A',c',rfl,hup⟩,hb1⟩;have h:=zH (b.o.trans (hb1.mono b.o.size));have f:=(hb1.block w.heap.size (by have:=c.o;omega)).trans j.o;have v:=(hb1.block (w.heap.size+1) c.o).trans l.o;have B:d.cell? (zA w.heap.size 2)=some (zL C mod.length D):=cell_of_row _ _ 2 _ _ _ f;have z:d.frozen? (zA w.heap.size 2)=false:=by simp[World.frozen?,f]
 have y:=zH (heap_set_same f 2 (zL A' mod.length c'));have t:=zH ((Below.heap_setCell d (zA w.heap.size 2) (zL A' mod.length c') (w.heap.size+1) (by show w.heap.size+1≠w.heap.size;omega)).trans v);have i:=zH (h.o.setCell (p:=(zA w.heap.size 2)) zn (zL A' mod.length c'));have A:=c.o;have x:zK (IntsUp (d.setCell (zA w.heap.size 2) (zL A' mod.length c')) u.heap.size A' mod):=hup.of_blocks U2 fun k hk _=>Below.heap_setCell d (zA w.heap.size 2) _ k (by show k≠w.heap.size;omega);clear hup hb1 f v r s;go_upto_region 2 with fail;generalize d.setCell (zA w.heap.size 2) (zL A' mod.length c')=g at *;clear B z;have q:zK (g.rangeAt w.heap.size 0 (C7 p m A' mod.length c')):=range_of_row y.out;have n:zK ((g.setRow (w.heap.size+1) #[Y p,Y m,zL A' mod.length c']).heap[w.heap.size+1]?=some (C3 p m A' mod.length c')):=setRow_same _ _ _ _ _ t.out;go_wp2_with (first|(refine wpList_load_mid rfl 29 (.tmp 1) rfl w.heap.size 0 rfl (C7 p m A' mod.length c') _ q.o underlying29 rfl fieldSize ?_)|(refine wpList_store_row rfl 29 (.tmp 2) (.tmp 7) rfl g (w.heap.size+1) 29 #[Y 0,Y 0,zL none 0 0] #[Y p,Y m,zL A' mod.length c'] rfl rfl t.out fieldSize rfl sc ?_));refine bodyPost_ret (results_cell_row (P:=prog) rfl _ _ (w.heap.size+1) 29 #[Y p,Y m,zL A' mod.length c'] (0,0) _ rfl n.o underlying29 rfl fieldSize) rfl ?_;refine⟨⟨A',c',rfl,?_⟩,qaR i.o U0 _⟩;exact(x.o.of_blocks U2 fun k hk _=>setRow_other g (w.heap.size+1) k _ U0).lower (by have:=b.o.size;omega)
def OfPostA(w:Wo)(p m:Int)(mod:LI)(cols:Int)(A:OA)(n c:Nat)(e:Ending)(w':Wo):Prop:=
 (∃(A':OA)(c':Nat),e=.returned (.tuple #[Ca p m A' mod.length c' cols A n c,Y 0])/\IntsUp w' w.heap.size A' mod)/\zB w w'
theorem of_any(p m:Int)(mod:LI)(C:OA)(D:Nat)(cols:Int)(A:OA)(n c:Nat)(w:Wo)(E:zI w C mod)(H:mod.length<=1000000):
 zC 157 #[C6 p m C mod.length D,Cx cols A n c,Y 0] w (OfPostA w p m mod cols A n c):=by
 have f:zK (BoxC w (C7 p m C mod.length D) [Y cols,zL A n c] (Cu) (((w.alloc (C3 p m C mod.length D)).alloc (Cc cols A n c)).alloc (Ci))):=boxC w _ _ _;have v:=zH E;clear E;go_enter func157,ntmps157;go_upto_region 3 with fail;generalize ((w.alloc (C3 p m C mod.length D)).alloc (Cc cols A n c)).alloc (Ci)=b at *;have j:zK (∀W,LSt b W->W.rangeAt w.heap.size 0 (C7 p m C mod.length D)):=fun W i=>range_of_row (f.o.keep i).k0;have q:zK (∀W,LSt b W->W.cell? (zA (w.heap.size+1) 0)=some (Y cols)/\W.cell? (zA (w.heap.size+1) 1)=some (zL A n c)):=fun W i=>⟨cell_of_row _ _ 0 _ _ _ (f.o.keep i).k1,cell_of_row _ _ 1 _ _ _ (f.o.keep i).k1⟩;have g:zK (LSt b b.drew):=zV.drew
 have u:zK (zC 201 #[C6 p m C mod.length D] b.drew fun e w'=>(∃(A':OA)(c':Nat),e=.returned (C6 p m A' mod.length c')/\IntsUp w' b.heap.size A' mod)/\zB b w'):=
  (own_any p m mod C D b.drew (((v.o.keep f.o.below).keep (g.o.mono f.o.below.size)).more f.o.below.size) H).mono fun e w' ⟨h1,h2⟩=>⟨h1,g.o.trans h2⟩
 refine qbM 7 (LSt b) [(true,0),(true,2),(true,3),(true,4),(true,5),(false,1),(true,6)] default U1 U1 (fun _ _ d _ _ h=>by cases d<;>exact h) g.o ?_;simp only[List.map_cons,List.map_nil,List.getD_cons_zero,List.getD_cons_succ];refine qcS rfl 29 (.tmp 3) rfl w.heap.size 0 rfl (C7 p m C mod.length D) _ j.o underlying29 rfl fieldSize ?_;go_simp
 iterate 4
  apply qcH rfl
  . intro W i
    obtain⟨z,B⟩:=q.o W i
    go_simp
    rfl
  go_simp
 apply qcE rfl
 . go_simp;exact⟨rfl,rfl⟩
 with_reducible refine u.o.mono ?_
 rintro e t ⟨⟨A',c',rfl,hu⟩,hb1⟩;refine⟨_,rfl,hb1,?_⟩;go_simp;apply qcH rfl
 . intro W i;go_simp;rfl
 go_simp;refine qeJ ?_;have l:=zH (f.o.keep hb1);have r:=zH l.o.k2;have s:=zH (l.o.set (C2 p m A' mod.length c' cols A n c));have x:=zH hu;have y:=f.o.size;clear hu hb1;go_wp2_with (refine wpList_store_row rfl 32 (.tmp 6) (.tmp 18) rfl t (w.heap.size+1+1) 32 (Ct) (Cd p m A' mod.length c' cols A n c) rfl rfl r.o codeSize rfl sc ?_);refine bodyPost_ret (results_row_one (P:=prog) rfl _ _ (w.heap.size+1+1) 32 (Cd p m A' mod.length c' cols A n c) (0,0) _ _ rfl rfl s.o.k2 underlying32 rfl codeSize) rfl ?_;refine⟨⟨A',c',rfl,?_⟩,s.o.below⟩;exact(x.o.of_blocks U2 fun k hk _=>setRow_other t (w.heap.size+1+1) k _ U0).lower U0
theorem ker_T:kerM (opsT 2 1 lT) [[1,1,1]] 3=[[1,0,1],[0,1,1]]:=U1
theorem err_T:errC 2 1 [] 3 [[1,1,1]]=0:=U1
def LSkA(a w:Wo):Prop:=zB a w
def RelDuA(n:Nat)(K:LL)(w1:Wo)(v5 v6:Value)(wx:Wo):Prop:=
 ∃(b:Nat)(A':OA)(c':Nat),v5=zP b/\v6=Y 0/\wx.heap[b]?=some (.cells [Y (n:Int),zL A' K.length c'].toArray 54 (0,0))/\RowsUp wx w1.heap.size A' (nzs K)/\zB w1 wx
def DuaAll(p m:Int)(mod:LI)(n:Nat)(K:LL)(w:Wo)(e:Ending)(w':Wo):Prop:=
 (∃(A2:OA)(c2:Nat)(A':OA)(c':Nat),e=.returned (.tuple #[Ca p m A2 mod.length c2 n A' K.length c',Y 0])/\RowsUp w' w.heap.size A' (nzs K)/\IntsUp w' w.heap.size A2 mod)/\zB w w'
theorem dual_all(p m:Int)(mod:LI)(Am:OA)(cm n:Nat)(rows:LL)(A:OA)(c:Nat)(K:LL)(w:Wo)(hM:zI w Am mod)(hl:mod.length<=1000000)(hG:zR w A (nzs rows))(al:rows.length<=1000000)(hz:codeZ p m mod (n:Int) (nzs rows)=0)(ak:1<=n)(aj:errC p m mod (n:Int) (nzs rows)=0)(hK:kerM (opsT p.toNat m.toNat (lOf p m mod)) rows n=K):
 zC 98 #[Ca p m Am mod.length cm n A rows.length c] w (DuaAll p m mod n K w):=by
 have t:=zH (b2_new w (C2 p m Am mod.length cm n A rows.length c) 32 (Cu) 32);have U:=zH hG;have Q:=zH hM;have HZ:=zH hz;have HE:=zH aj;have B:=zH hK;clear hG hM hz aj hK;go_enter func98,ntmps98;go_upto_region 1 with fail;generalize (w.alloc (C9 p m Am mod.length cm n A rows.length c)).alloc (Ci)=L at *;have l:=zH t.o.range;have y:zK (zC 27 #[Ca p m Am mod.length cm n A rows.length c] L fun e w'=>e=.returned (Y 0)/\zB L w'):=by have h:=codecheck_c p m mod Am cm n (nzs rows) A c L ((Q.o.keep t.o.below).more t.o.below.size) U0 ((U.o.keep t.o.below).more t.o.below.size) (by rw[nzs_len];omega);rw[HZ.o,nzs_len] at h;exact h
 go_wp2_with (refine wpList_load_mid rfl 32 (.tmp 1) rfl w.heap.size 0 rfl (C2 p m Am mod.length cm n A rows.length c) _ l.o underlying32 rfl codeSize ?_);go_fit y.o;rintro e j ⟨rfl,hb1⟩;have g:=zH (t.o.grow hb1);clear hb1 y t l;clear L;have C:zK (∀W,LSkA j W->W.rangeAt w.heap.size 0 (C2 p m Am mod.length cm n A rows.length c)):=fun W hW=>(g.o.grow hW).range;have D:zK (∀W,LSkA j W->W.rangeAt w.heap.size 0 (C7 p m Am mod.length cm)):=fun W hW=>(g.o.grow hW).field;have I:zK (LSkA j j.drew):=zV.drew;have s:zK (∀W,LSkA j W->zC 156 #[C6 p m Am mod.length cm,Cx n A rows.length c] W fun e w'=>(∃(f:OA)(i:Nat),e=.returned (.tuple #[Cx n f K.length i,Y 0])/\RowsUp w' W.heap.size f (nzs K))/\zB W w'):=fun W hW=>by have h:=kernel_c p m mod Am cm n rows A c W ((((Q.o.keep g.o.below).more g.o.below.size).keep hW).more (Below.size hW)) U0 ((((U.o.keep g.o.below).more g.o.below.size).keep hW).more (Below.size hW)) ak HE.o;rw[B.o] at h;exact h
 go_upto_region 4 with fail;go_cut [5,6] (fun v5 v6 wx=>RelDuA n K j v5 v6 wx);case first =>
  refine wp_region_mixx 10 9 8 (LSkA j) [(1,0),(0,1),(0,2),(2,3),(2,4),(1,5),(1,6),(1,7)] [(3,9)] default _ (Cy) U1 U1 (fun _ _ d _ _ h=>by cases d<;>exact h) rfl rfl ?_ (fun W hW=>Below.alloc hW (Below.size hW) _) I.o ?_
  . intro a w;unfold ptrTo;go_simp
  simp only[List.map_cons,List.map_nil,List.getD_cons_zero,List.getD_cons_succ];apply x_free rfl
  . intro W;go_simp;rfl
  go_simp;refine x_load_mid rfl 29 (.tmp 14) rfl w.heap.size 0 rfl (C7 p m Am mod.length cm) _ D.o underlying29 rfl fieldSize ?_;go_simp;refine x_load_mid rfl 32 (.tmp 1) rfl w.heap.size 0 rfl (C2 p m Am mod.length cm n A rows.length c) _ C.o underlying32 rfl codeSize ?_;go_simp;apply x_call rfl
  . intro W;go_simp;exact⟨rfl,rfl⟩
  intro W1 af M;with_reducible refine(gen_c p m Am mod.length cm n A rows.length c W1).mono ?_
  rintro e x ⟨rfl,hb2⟩;refine⟨_,rfl,Below.trans M (hb2.mono (Below.size M)),hb2,?_⟩;go_simp;apply x_call rfl
  . intro W;go_simp;exact⟨rfl,rfl⟩
  intro W3 ag r;have z:=zH (s.o W3 r);with_reducible refine z.o.mono ?_
  rintro e w4 ⟨⟨f,i,rfl,hr4⟩,hb4⟩;refine⟨_,rfl,Below.trans r (hb4.mono (Below.size r)),hb4,?_⟩;go_simp
  iterate 3
   apply x_free rfl
   . intro W
     go_simp
     rfl
   go_simp
  refine x_nil ?_;intro W7 b u N O hF v;have ae:j.heap.size<=W3.heap.size:=Below.size r;have ac:¬(W3.heap.size<=b/\b<w4.heap.size):=fun h=>hF (.inr h)
  have ab:zK (RowsUp (W7.setRow b #[Y (n:Int),zL f K.length i]) j.heap.size f (nzs K)):=
   (hr4.of_blocks (by simpa using u.size) (fun k hk1 hk2=>by rw[setRow_other _ _ _ _ U0,u.block k hk2])).lower ae
  have X:zK ((W7.setRow b #[Y (n:Int),zL f K.length i]).heap[b]?=some (.cells [Y (n:Int),zL f K.length i].toArray 54 (0,0))):=setRow_same _ _ _ _ _ v;have S:zK (zB j (W7.setRow b #[Y (n:Int),zL f K.length i])):=qaR N O _;unfold ptrTo;refine qcA rfl 54 (.tmp 5) (.tmp 19) rfl b 54 (Cv) #[Y (n:Int),zL f K.length i] rfl rfl v matSize rfl sc ?_;go_simp;refine qbH ?_;show wpList _ _ _ _ _ _;clear hr4 hb4 u N O hF v ac z;go_wp2;go_meet;exact⟨b,f,i,rfl,rfl,X.o,ab.o,S.o⟩
 case rest=>
  obtain⟨b,f,i,rfl,rfl,R,hr,hb⟩:=hcut;have q:=zH (g.o.grow hb);have H:=zH hr;have T:=zH hb.size;have l:=zH q.o.field;have E:zK (wc.rangeAt b 0 [Y (n:Int),zL f K.length i]):=range_of_row R;have ad:w.heap.size<=j.heap.size:=g.o.below.size;have ai:w.heap.size+1<j.heap.size:=g.o.2.2.2;have Z:=zH (of_any p m mod Am cm (n:Int) f K.length i wc ((Q.o.keep q.o.below).more q.o.below.size) hl);clear R hr hb g C D I s
  go_wp2_with (first
   |(refine wpList_load_mid rfl 29 (.tmp 21) rfl w.heap.size 0 rfl (C7 p m Am mod.length cm) _ l.o underlying29 rfl fieldSize ?_)
   |(refine wpList_load_mid rfl 54 (.tmp 5) rfl b 0 rfl [Y (n:Int),zL f K.length i] _ E.o underlying54 rfl matSize ?_))
  clear Q HZ HE B U;go_fit Z.o;rintro e x ⟨⟨A2,c2,rfl,hi2⟩,hb2⟩;have V:=zH hi2;have J:=zH (q.o.grow hb2);have aa:=zH (H.o.grow hb2);have HK:=zH J.o.2.1;have HY:=zH (J.o.set (C2 p m A2 mod.length c2 n f K.length i));clear hi2 hb2 q H l E;go_wp2_with (refine wpList_store_row rfl 32 (.tmp 2) (.tmp 26) rfl x (w.heap.size+1) 32 (Ct) (Cd p m A2 mod.length c2 n f K.length i) rfl rfl HK.o codeSize rfl sc ?_);refine bodyPost_ret (results_row_one (P:=prog) rfl _ _ (w.heap.size+1) 32 (Cd p m A2 mod.length c2 n f K.length i) (0,0) _ _ rfl rfl HY.o.2.1 underlying32 rfl codeSize) rfl ?_;have hv:RowsUp (x.setRow (w.heap.size+1) (Cd p m A2 mod.length c2 n f K.length i)) j.heap.size f (nzs K):=aa.o.of_blocks U2 fun k R _=>setRow_other x (w.heap.size+1) k _ U0;have ah:j.heap.size<=wc.heap.size:=T.o;have hi:IntsUp (x.setRow (w.heap.size+1) (Cd p m A2 mod.length c2 n f K.length i)) wc.heap.size A2 mod:=V.o.of_blocks U2 fun k R _=>setRow_other x (w.heap.size+1) k _ U0;exact⟨⟨A2,c2,f,i,rfl,hv.lower ad,hi.lower U0⟩,HY.o.below⟩
theorem dual_rep(G:Nat)(w:Wo)(b:zR w (zO G) [[1,1,1]]):
 zC 98 #[Ck 2 1 3 G 1 1] w fun e w'=>
  (∃(A2:OA)(c2:Nat)(A':OA)(c':Nat),e=.returned (.tuple #[Ca 2 1 A2 0 c2 3 A' 2 c',Y 0])/\RowsUp w' w.heap.size A' [[1,0,1],[0,1,1]])/\zB w w':=
 (dual_all 2 1 [] none 0 3 [[1,1,1]] (zO G) 1 [[1,0,1],[0,1,1]] w (fun h=>absurd h U2) U2 b U2 codeZ_rep U0 err_T ker_T).mono fun _ _ ⟨⟨A2,c2,A',c',h1,h2,_⟩,hb⟩=>⟨⟨A2,c2,A',c',h1,h2⟩,hb⟩
theorem columns2_c(o c:LI)(f d:OA)(i cc h:Nat)(W:Wo)(k:zI W f o)(l:W.cell? (zA h 0)=some (zL d c.length cc))(j:zI W d c)(m:o.length<=1000)(g:o≠c):
 zC 103 #[zL f o.length i,zP h] W (Quiet (.bool false) W):=by have b:=zH (sequal_c o c f d i cc W k j U0);rw[decide_eq_false g] at b;clear k j;go_enter func103,ntmps103;go_wp2_with fail;refine b.o.mono ?_;rintro e w' ⟨rfl,n,rfl⟩;go_wp2;go_ret;exact⟨rfl,n,rfl⟩
def RelFar(w:Wo)(n:Nat)(v8:Value)(wr:Wo):Prop:=∃k m:Nat,k<=n/\v8=Y k/\wr=w.drewN m
theorem indexfar_c(R:List LI)(D:LI)(A H:OA)(c cc E:Nat)(w:Wo)(I:zR w A R)(J:w.cell? (zA E 0)=some (zL H D.length cc))(K:zI w H D)(M:R.length<=1000)(L:∀ o∈R,o.length<=1000/\o≠D):
 zC 159 #[zL A R.length c,.func (.func 103) #[] #[zP E]] w (Quiet (Y (-1)) w):=by
 have p:=zH I;have s:zK (∀(m k:Nat)(Ao:OA)(co:Nat),k<R.length->zI w Ao (R.getD k [])->zC 103 #[zL Ao (R.getD k []).length co,zP E] (w.drewN m) (Quiet (.bool false) (w.drewN m))):=fun m k Ao co h ho=>by
  have v:R.getD k []∈R:=by(have:R.getD k []=R[k]:=by simp[List.getD,h]);rw[this];exact List.getElem_mem h
  obtain⟨t,u⟩:=L _ v;exact columns2_c (R.getD k []) D Ao H co cc E (w.drewN m) (ho.keep (qaB zV m)) J (K.keep (qaB zV m)) t u
 clear I J K L;go_enter func159,ntmps159;go_wp2;go_loopw [8] (fun v8 wr=>RelFar w R.length v8 wr) (fun v8 _=>R.length-(intOf v8).toNat);case atStart=>exact⟨0,0,U0,rfl,rfl⟩
 case round =>
  obtain⟨k,m,h,rfl,rfl⟩:=hrel;by_cases g:k<R.length
  . obtain⟨b,o,j,l,rfl,y,d,f⟩:=p.o.at_ (i:=k) g;have C:(w.drewN m).cell? (zA b (o+k))=some (zL j (R.getD k []).length l):=d;have q:=zH (s.o m k j l g f);have z:(0:Int)<=(k:Int):=U0;have B:(k:Int)<(R.length:Int):=U0;have x:IntKind.i64.wrap ((k:Int)+1)=(k:Int)+1:=IntWalk.i64_in _ U0;clear d f;generalize R.getD k []=r at *;go_wp2_with fail;refine q.o.mono ?_;rintro e w' ⟨rfl,n,rfl⟩;go_wp2;go_roundw;case rel=>exact⟨k+1,m+n,U0,U3,df⟩
    case measure=>simp[intOf];omega
  . (obtain rfl:k=R.length:=by omega);go_wp2;go_ret;exact⟨rfl,m,rfl⟩
theorem containsfar_c(R:List LI)(d:LI)(A f:OA)(c cc g:Nat)(w:Wo)(h:zR w A R)(k:w.cell? (zA g 0)=some (zL f d.length cc))(i:zI w f d)(l:R.length<=1000)(j:∀o∈R,o.length<=1000/\o≠d):
 zC 102 #[zL A R.length c,.func (.func 103) #[] #[zP g]] w (Quiet (.bool false) w):=by have b:=zH (indexfar_c R d A f c cc g w h k i l j);clear h i j;go_enter func102,ntmps102;go_wp2_with fail;refine b.o.mono ?_;rintro e w' ⟨rfl,n,rfl⟩;go_wp2;go_ret;exact⟨rfl,n,rfl⟩
end Go.Proofs.YtkcdlealipfnbaaGreat
namespace Go.Proofs.YtkcdlealipfnbaaGreat
open Go.RowKit Pln
def colT(j:Nat):LN:=[[1,0],[0,1],[1,1]].getD j []
def rowT(k:Nat):LN:=[[1,0,1],[0,1,1]].getD k []
def colsT:LL:=[[1,0],[0,1],[1,1]]
theorem colT_len{j:Nat}(h:j<3):(colT j).length=2:=by
 match j,h with
 |0,_=>rfl
 |1,_=>rfl
 |2,_=>rfl
theorem colT_lt{j:Nat}(h:j<3):∀x∈colT j,x<2:=by
 match j,h with
 |0,_=>decide
 |1,_=>decide
 |2,_=>decide
theorem colT_ix{j:Nat}(h:j<3):∃p:Nat,nzIx (colT j) 0=(p:Int)/\p<2/\(colT j).getD p 0=1:=by
 match j,h with
 |0,_=>exact⟨0,rfl,U0,rfl⟩
 |1,_=>exact⟨1,rfl,U0,rfl⟩
 |2,_=>exact⟨0,rfl,U0,rfl⟩
theorem inv_T:invT lT (logL lT (2^1)) (2^1) 1=1:=U1
theorem mul_T0:mulT lT (logL lT (2^1)) (2^1) 1 0=0:=U1
theorem scale_T{j:Nat}(h:j<3):scaleRow (opsT 2 1 lT) 1 (colT j)=colT j:=by
 have c:(opsT 2 1 lT).mul 1 0=0:=mul_T0;have b:(opsT 2 1 lT).mul 1 1=1:=mul_T;unfold scaleRow;match j,h with
 |0,_=>show[(opsT 2 1 lT).mul 1 1,(opsT 2 1 lT).mul 1 0]=[1,0];rw[c,b]
 |1,_=>show[(opsT 2 1 lT).mul 1 0,(opsT 2 1 lT).mul 1 1]=[0,1];rw[c,b]
 |2,_=>show[(opsT 2 1 lT).mul 1 1,(opsT 2 1 lT).mul 1 1]=[1,1];rw[b]
theorem col_step{j k:Nat}(b:j<3)(c:k<2):(colT j).take (k+1)=(colT j).take k++[(rowT k).getD j 0]:=by
 match j,b,k,c with
 |0,_,0,_=>rfl
 |0,_,1,_=>rfl
 |1,_,0,_=>rfl
 |1,_,1,_=>rfl
 |2,_,0,_=>rfl
 |2,_,1,_=>rfl
theorem cols_far{j:Nat}(h:j<3):∀o∈nzs (colsT.take j),o.length<=1000/\o≠nz (colT j):=by
 match j,h with
 |0,_=>intro o b;exact absurd b (by simp[nzs])
 |1,_=>decide
 |2,_=>decide
theorem rowI{k:Nat}(h:k<2):([[1,0,1],[0,1,1]]:List LI).getD k []=nz (rowT k)/\(rowT k).length=3:=by
 match k,h with
 |0,_=>exact⟨rfl,rfl⟩
 |1,_=>exact⟨rfl,rfl⟩
theorem colT_all{j:Nat}(h:j<3):(colT j).take 2=colT j:=by
 match j,h with
 |0,_=>rfl
 |1,_=>rfl
 |2,_=>rfl
theorem cols_snoc{j:Nat}(h:j<3):colsT.take (j+1)=colsT.take j++[colT j]/\(colsT.take j).length=j:=by
 match j,h with
 |0,_=>exact⟨rfl,rfl⟩
 |1,_=>exact⟨rfl,rfl⟩
 |2,_=>exact⟨rfl,rfl⟩
end Go.Proofs.YtkcdlealipfnbaaGreat
