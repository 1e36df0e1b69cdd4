/- Parts of the proof. -/
import Derived.Test.YtndipkplnkfoeaaGreatR16
import Derived.Test.YtndipkplnkfoeaaGreatR14
set_option maxRecDepth 100000
set_option maxHeartbeats 8000000
namespace Go.Proofs.YtndipkplnkfoeaaGreat
open Go.RowKit Pln
theorem run_copy_ints(D:TypeId)(C:Nat)(A:Option Addr)(c:Nat)(zs:List Int)(W:World)(E:IntsAt W W.heap.size A zs)(H:zs.length<=1000000):
 ∃(A':Option Addr)(c':Nat)(w':World),(Builtin.append_ #[23,23] D #[zS C 0 0,zL A zs.length c]).run Tryz.prog W=.ok (zL A' zs.length c') w'/\IntsUp w' W.heap.size A' zs/\Below W.heap.size W w':=by
 obtain⟨y,s,p,q,r⟩:=qaF infoInt;by_cases t:zs.length=0
 . refine⟨some (zA C 0),0,W,?_,fun h=>absurd h U0,Below.refl _ _⟩;rw[t];cases A<;>simp[Builtin.append_,run_underlying Tryz.underlying23,sizeOf,typeInfo,s,Builtin.lenOf,Builtin.firstCells,storeCells,loadCells,loadCellsFrom]
 . obtain⟨b,o,rfl,v,x⟩:=E U0;obtain⟨z,w',i,d,f⟩:=run_append_arg_grows (P:=Tryz.prog) W 23 D 3 y _ 1 8 Tryz.underlying23 s p q r rfl dc (zA C 0) 0 0 [] rfl (fun j u hj=>by simp at hj) (zA b o) zs.length c (zs.map (Value.int .i64)) U2 (IntsAt.news (B:=W.heap.size) (fun hz=>⟨b,o,rfl,v,x⟩)) U0 U3 U0;obtain⟨g,l,rfl,m,n⟩:=d.form U0;refine⟨some (zA g 0),l,w',by rw[i];simp,fun _=>⟨g,0,rfl,m,n,fun j hj=>?_⟩,⟨f.os,f.tape,f.output,f.size,fun k hk=>f.block k hk U2⟩⟩;have:=d.cells (g:=g) rfl j (Y (zs.getD j 0)) (by simp[List.getD,hj]);rw[Addr.add_mid] at this;exact this
theorem exec_append{P:Program}{o:Oper}{a:Act}(s x:Operand)(t:TypeId)(b:o.op=.call { callee:=.builtin .append,args:=#[s,x],argTypes:=#[t,t] }){v1 v2:Value}(c:a.eval s=v1)(d:a.eval x=v2){W w':World}{v:Value}(h:(Builtin.append_ #[t,t] o.type #[v1,v2]).run P W=.ok v w'):(execOp a.eval o).run P W=.ok (.value v) w':=by unfold execOp;simp only[b,resolve,invoke,builtin,Sem.run_bind,Sem.run_pure,Result.andThen_ok,List.map_toArray,List.map_cons,List.map_nil,c,d,h]
def B2(w:World)(cs:List Value)(t:TypeId)(ds:List Value)(u:TypeId)(W:World):Prop:=
 W.heap[w.heap.size]?=some (.cells cs.toArray t (0,0))/\W.heap[w.heap.size+1]?=some (.cells ds.toArray u (0,0))/\Below w.heap.size w W/\w.heap.size+1<W.heap.size
section
variable {w:World} {cs ds:List Value} {t u:TypeId} {W W':World}
theorem B2.grow(h:B2 w cs t ds u W)(g:Below W.heap.size W W'):B2 w cs t ds u W':=by obtain⟨c,d,f,b⟩:=h;exact⟨(g.block _ U0).trans c,(g.block _ b).trans d,f.trans (g.mono U0),Nat.lt_of_lt_of_le b g.size⟩
theorem B2.below(h:B2 w cs t ds u W):Below w.heap.size w W:=h.2.2.1
theorem B2.cell(h:B2 w cs t ds u W){k:Nat}{v:Value}(b:cs[k]?=some v):W.cell? (zA w.heap.size k)=some v:=by rw[cell_of_row W w.heap.size k _ _ _ h.1];simpa using b
theorem B2.range(h:B2 w cs t ds u W):W.rangeAt w.heap.size 0 cs:=range_of_row h.1
theorem B2.field{a b c:Value}{l:List Value}(h:B2 w (a :: b :: c :: l) t ds u W):W.rangeAt w.heap.size 0 [a,b,c]:=fun j v hv=>by
 match j,hv with
 |0,hv=>exact h.range 0 v hv
 |1,hv=>exact h.range 1 v hv
 |2,hv=>exact h.range 2 v hv
 |j+3,hv=>simp at hv
theorem B2.set(h:B2 w cs t ds u W)(b:List Value):B2 w cs t b u (W.setRow (w.heap.size+1) b.toArray):=
 ⟨(setRow_other W _ _ _ U0).trans h.1,setRow_same W _ _ _ _ h.2.1,qaR h.2.2.1 U0 _,by simpa using h.2.2.2⟩
end
theorem b2_new(w:World)(cs:List Value)(t:TypeId)(ds:List Value)(u:TypeId):B2 w cs t ds u ((w.alloc (.cells cs.toArray t)).alloc (.cells ds.toArray u)):=
 ⟨(Below.heap_alloc _ _ _ U2).trans (heap_alloc_new _ _),alloc_at U2 _,((Below.refl _ _).alloc (Nat.le_refl _) _).alloc U2 _,U2⟩
def FieldPost(w:World)(p m:Int)(zs:List Int)(e:Ending)(w':World):Prop:=
 (∃(A':Option Addr)(c':Nat),e=.returned (Ch p m A' zs.length c')/\IntsUp w' w.heap.size A' zs)/\Below w.heap.size w w'
theorem rfield_c(p m:Int)(zs:List Int)(A:Option Addr)(c:Nat)(w:World)(L:IntsAt w w.heap.size A zs)(M:zs.length<=1000000):
 zC 92 #[Ch p m A zs.length c] w (FieldPost w p m zs):=by
 have t:=zH (b2_new w (Ci p m A zs.length c) 29 [Y 0,Y 0,zL none 0 0] 29);have z:=zH L;clear L;go_enter Tryz.func92,Tryz.ntmps92;go_upto_region 1 with fail;generalize (w.alloc (Ce p m A zs.length c)).alloc (Cz)=x at *;have j:Hid (B2 w (Ci p m A zs.length c) 29 [Y 0,Y 0,zL none 0 0] 29 x.drew):=t.out.grow (Below.refl _ _).drew;have r:Hid (∀W,B2 w (Ci p m A zs.length c) 29 [Y 0,Y 0,zL none 0 0] 29 W->W.cell? (zA w.heap.size 0)=some (Y p)/\W.cell? (zA w.heap.size 1)=some (Y m)/\W.cell? (zA w.heap.size 2)=some (zL A zs.length c)):=fun W h=>⟨h.cell rfl,h.cell rfl,h.cell rfl⟩;refine qaS 9 9 (B2 w (Ci p m A zs.length c) 29 [Y 0,Y 0,zL none 0 0] 29) [(1,0),(0,1),(1,2),(0,3),(1,5),(0,6),(2,4),(2,7),(1,8)] default U1 U1 (fun _ _ d _ _ h=>by cases d<;>exact h) j.out ?_;simp only[List.map_cons,List.map_nil,List.getD_cons_zero,List.getD_cons_succ];generalize x.drew=l at *;clear t
 iterate 3
  apply qaM rfl
  . intro W
    go_simp
    rfl
  go_simp
  apply qbF rfl
  . intro W D
    obtain⟨I,J,K⟩:=r.out W D
    go_simp
    rfl
  go_simp
 have b:Hid (B2 w (Ci p m A zs.length c) 29 [Y 0,Y 0,zL none 0 0] 29 (l.alloc (.cells #[] 3))):=j.out.grow ((Below.refl _ _).alloc (Nat.le_refl _) _);apply qdM rfl (v:=zS l.heap.size 0 0) (w':=l.alloc (.cells #[] 3))
 . go_simp
 . exact b.out
 go_simp;generalize l.heap.size=C at *;generalize l.alloc (.cells #[] 3)=y at *;obtain⟨i,n,w',f,q,o⟩:=run_copy_ints 23 C A c zs y ((z.out.keep b.out.below).more b.out.below.size) M;have g:=zH (b.out.grow o);refine qdM rfl (exec_append (.tmp 7) (.tmp 9) 23 rfl rfl rfl f) g.out ?_;go_simp;have s:=zH q;clear f q o;apply qaM rfl
 . intro W;go_simp;rfl
 go_simp;refine qbH ?_;show wpList _ _ _ _ _ _;go_simp;have B:=zH g.out.2.1;have u:=zH (g.out.set (Ci p m i zs.length n));have E:=b.out.2.2.2;go_wp2_with (refine wpList_store_row rfl 29 (.tmp 2) (.tmp 11) rfl w' (w.heap.size+1) 29 #[Y 0,Y 0,zL none 0 0] #[Y p,Y m,zL i zs.length n] rfl rfl B.out fieldSize rfl sc ?_);refine bodyPost_ret (results_cell_row (P:=Tryz.prog) rfl _ _ (w.heap.size+1) 29 #[Y p,Y m,zL i zs.length n] (0,0) _ rfl u.out.2.1 Tryz.underlying29 rfl fieldSize) rfl ?_;refine⟨⟨i,n,rfl,?_⟩,u.out.below⟩;have H:IntsUp (w'.setRow (w.heap.size+1) #[Y p,Y m,zL i zs.length n]) y.heap.size i zs:=s.out.of_blocks U2 fun k hk _=>setRow_other w' (w.heap.size+1) k _ U0;exact H.lower U0
def MakePost(w:World)(p m:Int)(zs:List Int)(cols:Nat)(e:Ending)(w':World):Prop:=
 (∃(A':Option Addr)(c':Nat)(G:Option Addr)(R:List (List Nat))(k:Nat),e=.returned (Ck p m A' zs.length c' cols G R.length k)/\IntsUp w' w.heap.size A' zs/\RowsUp w' w.heap.size G (nzs R)/\R.length<=256)/\Below w.heap.size w w'
theorem rmake_c(p m:Nat)(md:List Nat)(A:Option Addr)(zs:List Int)(c:Nat)(rows:List (List Nat))(L:Option Addr)(c2 J:Nat)(w:World)(Q:RFld p m md A zs.length w.heap.size w)(R:∃l,FT p m md l)(T:IntsAt w w.heap.size A zs)(M:zs.length<=1000000)(K:Grid (p^m) rows.length J rows)(N:RowsAt w w.heap.size L (nzs rows))(U:1<=J)(V:J<=256)(S:rows.length<=256):
 zC 44 #[Ch p m A zs.length c,zL L rows.length c2,Y J] w (MakePost w p m zs J):=by
 have n:=zH (b2_new w (Ci p m A zs.length c) 29 (Cd) 32);have B:=zH T
 have h:Hid (∀W:World,Below w.heap.size w W->zC 37 #[Ch p m A zs.length c,zL L rows.length c2,Y J] W fun e w'=>(∃(A':Option Addr)(ck:Nat)(VA:Option Addr)(c3:Nat),e=.returned (.tuple #[zL A' (canonM (refOps p m md) rows J).length ck,zL VA (elGo (refOps p m md) rows J).piv.length c3])/\RowsUp w' W.heap.size A' (nzs (canonM (refOps p m md) rows J))/\IntsAt w' w'.heap.size VA (nz (elGo (refOps p m md) rows J).piv))/\Below W.heap.size W w'):=fun W hW=>
  rcanon_c p m md A zs.length c rows L c2 J W ((Q.keep hW).more hW.size) R K ((N.keep hW).more hW.size) U V S
 have u:(canonM (refOps p m md) rows J).length<=256:=by rw[canonM_len];exact Nat.le_trans (elGo_piv (O:=refOps p m md) rows J).2 S
 clear Q R K N T;generalize (elGo (refOps p m md) rows J).piv=I at *;generalize canonM (refOps p m md) rows J=f at *;go_enter Tryz.func44,Tryz.ntmps44;go_upto_region 1 with fail;generalize (w.alloc (Ce p m A zs.length c)).alloc (Cc)=x at *;have d:=zH n.out.range;have g:=zH (h.out x n.out.below);go_wp2_with (refine wpList_load_mid rfl 29 (.tmp 3) rfl w.heap.size 0 rfl (Ci p m A zs.length c) _ d.out Tryz.underlying29 rfl fieldSize ?_);(with_reducible refine g.out.mono ?_);rintro e y ⟨⟨A',ck,VA,c3,rfl,hra,_⟩,hb1⟩;have b:=zH (n.out.grow hb1);have s:=zH hra;have t:=zH n.out.2.2.2;clear hb1 hra g n d h;have d:=zH b.out.range;have i:=zH (rfield_c p m zs A c y ((B.out.keep b.out.below).more b.out.below.size) M);go_upto_region 2 with fail;go_wp2_with (refine wpList_load_mid rfl 29 (.tmp 3) rfl w.heap.size 0 rfl (Ci p m A zs.length c) _ d.out Tryz.underlying29 rfl fieldSize ?_);(with_reducible refine i.out.mono ?_);rintro e q ⟨⟨B',c',rfl,hia⟩,hb2⟩;have o:=zH (b.out.grow hb2);have j:=zH (s.out.grow hb2);have r:=zH hia;have z:=zH o.out.2.1;have v:=zH (o.out.set (Ca p m B' zs.length c' J A' f.length ck));clear hb2 hia i;go_wp2_with (refine wpList_store_row rfl 32 (.tmp 6) (.tmp 20) rfl q (w.heap.size+1) 32 (Cb) (Cl p m B' zs.length c' J A' f.length ck) rfl rfl z.out codeSize rfl sc ?_);refine bodyPost_ret (results_cell_row (P:=Tryz.prog) rfl _ _ (w.heap.size+1) 32 (Cl p m B' zs.length c' J A' f.length ck) (0,0) _ rfl v.out.2.1 Tryz.underlying32 rfl codeSize) rfl ?_;have C:=t.out;have D:=b.out.2.2.2;have E:IntsUp (q.setRow (w.heap.size+1) (Cl p m B' zs.length c' J A' f.length ck)) y.heap.size B' zs:=r.out.of_blocks U2 fun k hk _=>setRow_other q (w.heap.size+1) k _ U0;have H:RowsUp (q.setRow (w.heap.size+1) (Cl p m B' zs.length c' J A' f.length ck)) x.heap.size A' (nzs f):=j.out.of_blocks U2 fun k hk _=>setRow_other q (w.heap.size+1) k _ U0;exact⟨⟨B',c',A',f,ck,rfl,E.lower U0,H.lower U0,u⟩,v.out.below⟩
end Go.Proofs.YtndipkplnkfoeaaGreat
namespace Go.Proofs.YtndipkplnkfoeaaGreat
open Pln
namespace Al
structure Fld (q:Nat) (O:Ops):Prop where
 q1:1<q
 addL:∀x y,x<q->y<q->O.add x y<q
 mulL:∀x y,x<q->y<q->O.mul x y<q
 negL:∀x,x<q->O.neg x<q
 invL:∀x,x<q->x≠0->O.inv x<q
 addC:∀x y,x<q->y<q->O.add x y=O.add y x
 addA:∀x y z,x<q->y<q->z<q->O.add (O.add x y) z=O.add x (O.add y z)
 addZ:∀x,x<q->O.add 0 x=x
 addN:∀x,x<q->O.add x (O.neg x)=0
 mulC:∀x y,x<q->y<q->O.mul x y=O.mul y x
 mulA:∀x y z,x<q->y<q->z<q->O.mul (O.mul x y) z=O.mul x (O.mul y z)
 mulU:∀x,x<q->O.mul 1 x=x
 mulZ:∀x,x<q->O.mul 0 x=0
 dist:∀x y z,x<q->y<q->z<q->O.mul x (O.add y z)=O.add (O.mul x y) (O.mul x z)
 inv:∀x,x<q->x≠0->O.mul x (O.inv x)=1
theorem addD_s(p k x y:Nat):addD p (k+1) x y=(x % p+y % p) % p+p*addD p k (x / p) (y / p):=rfl
theorem negD_s(p k x:Nat):negD p (k+1) x=(p-x % p) % p+p*negD p k (x / p):=rfl
theorem addD_mod{p:Nat}(_:0<p)(k x y:Nat):addD p (k+1) x y % p=(x+y) % p:=by rw[addD_s,Nat.add_mul_mod_self_left,Nat.mod_mod,<- Nat.add_mod]
theorem addD_div{p:Nat}(b:0<p)(k x y:Nat):addD p (k+1) x y / p=addD p k (x / p) (y / p):=by rw[addD_s,Nat.add_mul_div_left _ _ b,Nat.div_eq_of_lt (Nat.mod_lt _ b),Nat.zero_add]
theorem addD_comm(p:Nat):∀ k x y,addD p k x y=addD p k y x
 |0,_,_=>rfl
 |k + 1,x,y=>by
   rw[addD_s,addD_s,addD_comm p k,Nat.add_comm (x % p)]
theorem addD_assoc{p:Nat}(b:0<p):∀ k x y z,addD p k (addD p k x y) z=addD p k x (addD p k y z)
 |0,_,_,_=>rfl
 |k + 1,x,y,z=>by
   show(addD p (k+1) x y % p+z % p) % p+p*addD p k (addD p (k+1) x y / p) (z / p)=(x % p+addD p (k+1) y z % p) % p+p*addD p k (x / p) (addD p (k+1) y z / p)
   rw[addD_mod b,addD_div b,addD_mod b,addD_div b,addD_assoc b k,<- Nat.add_mod,<- Nat.add_mod,Nat.add_assoc]
theorem addD_id{p:Nat}(b:0<p):∀ k x,x<p ^ k->addD p k 0 x=x
 |0,x,h=>by
   simp at h
   subst h
   rfl
 |k + 1,x,h=>by
   have h1:x / p<p^k:=by rw[Nat.div_lt_iff_lt_mul b];rwa [Nat.pow_succ] at h
   rw[addD_s,Nat.zero_mod,Nat.zero_add,Nat.mod_mod,Nat.zero_div,addD_id b k _ h1]
   exact Nat.mod_add_div x p
theorem addD_neg{p:Nat}(f:0<p):∀ k x,addD p k x (negD p k x)=0
 |0,_=>rfl
 | k + 1,x => by
   have h1:negD p (k+1) x % p=(p-x % p) % p:=by
    rw[negD_s,Nat.add_mul_mod_self_left,Nat.mod_mod]
   have b:negD p (k+1) x / p=negD p k (x / p):=by
    rw[negD_s,Nat.add_mul_div_left _ _ f,Nat.div_eq_of_lt (Nat.mod_lt _ f),Nat.zero_add]
   have d:x % p<p:=Nat.mod_lt _ f
   show(x % p+negD p (k+1) x % p) % p+p*addD p k (x / p) (negD p (k+1) x / p)=0
   rw[h1,b,addD_neg f k]
   have c:(x % p+(p-x % p) % p) % p=0:=by
    rw[Nat.add_mod_mod,show x % p+(p-x % p)=p by omega,Nat.mod_self]
   rw[c]
   rfl
def zw(p:Nat)(a b:List Nat):List Nat:=List.zipWith (fun x y=>(x+y) % p) a b
theorem zw_dig{p m:Nat}(h:0<p){a b:List Nat}(f:a.length=m)(g:b.length=m):Dig p m (zw p a b):=by refine⟨by simp[zw,f,g],fun d hd=>?_⟩;unfold zw at hd;obtain⟨i,c,rfl⟩:=List.mem_iff_getElem.1 hd;rw[List.getElem_zipWith];exact Nat.mod_lt _ h
theorem zw_F{p m:Nat}{a b:List Nat}(d:a.length=m)(f:b.length=m):Cg p (F (zw p a b)) (fun j=>1*F a j+F b j):=by
 refine Cg.mk fun j=>?_;unfold F zw;by_cases c:j<m
 . (have e:(List.zipWith (fun x y=>(x+y) % p) a b).getD j 0=(a.getD j 0+b.getD j 0) % p:=by simp[List.getD,List.getElem?_zipWith,List.getElem?_eq_getElem (show j<a.length by omega),List.getElem?_eq_getElem (show j<b.length by omega)]);rw[e];simp
 . rw[qaZ so,qaZ U0,qaZ U0];simp
theorem mulL_dist{p m:Nat}(j:0<p)(md a b c:List Nat)(k:a.length=m)(l:b.length=m)(n:c.length=m):Pln.mulL p m md a (zw p b c)=zw p (Pln.mulL p m md a b) (Pln.mulL p m md a c):=by have d:=qaW (m:=m) j md a b;have f:=qaW (m:=m) j md a c;have g:=qaW (m:=m) j md a (zw p b c);have i:=zw_dig j l n;have h:=zw_dig j d.1 f.1;refine F_inj (g.1.trans h.1.symm) g.2 h.2 ?_;refine(qbJ j md a _ k i.1).trans (Cg.trans ?_ (zw_F d.1 f.1).symm);refine(mz_cg (Cg.refl _ _) (zw_F l n)).trans (Cg.trans (Cg.of_eq ?_) (Cg.lin 1 (qbJ j md a b k l).symm (qbJ j md a c k n).symm));unfold mz;exact qdZ m (F md) 1 (F b) (F c) (F a) m
theorem digs_add{p:Nat}(b:0<p)(m x y:Nat):digs p m (addD p m x y)=zw p (digs p m x) (digs p m y):=by have h:=zw_dig b (qaK p m x) (qaK p m y);rw[addD_val];have:=qcR b _ h.2;rw[h.1] at this;exact this
theorem val_zw{p:Nat}(h:0<p){m:Nat}{a b:List Nat}(f:Dig p m a)(g:Dig p m b):val p (zw p a b)=addD p m (val p a) (val p b):=by have c:=qcR h _ f.2;have d:=qcR h _ g.2;rw[f.1] at c;rw[g.1] at d;rw[addD_val,c,d];rfl
theorem mulM_dist{p m:Nat}(b:0<p)(md:List Nat)(x y z:Nat):mulM p m md x (addD p m y z)=addD p m (mulM p m md x y) (mulM p m md x z):=by unfold mulM;rw[digs_add b,mulL_dist b md _ _ _ (qaK p m x) (qaK p m y) (qaK p m z)];exact val_zw b (qaW b md _ _) (qaW b md _ _)
theorem fld_of{p m:Nat}{md l:List Nat}(h:FT p m md l):Fld (p^m) (opsT p m l):=by
 have d:0<p:=by have:=h.small.p1;omega
 have H:=qaV (p:=p) (m:=m) (by have:=h.small.p1;omega) h.small.m1 md;have E:∀x y,x<p^m->y<p^m->(opsT p m l).mul x y=mulM p m md x y:=fun x y b c=>h.tab.mul_eq H b c;have M:∀x y,x<p^m->y<p^m->(opsT p m l).mul x y<p^m:=fun x y b c=>mulT_lt h b c;have A:∀x y,(opsT p m l).add x y<p^m:=fun x y=>qdR d m x y;refine⟨H.q1,fun x y _ _=>A x y,M,fun x _=>qdP d m x,fun x b g=>(h.tab.inv H g b).2.1,fun x y _ _=>addD_comm p m x y,fun x y z _ _ _=>addD_assoc d m x y z,fun x b=>addD_id d m x b,fun x _=>addD_neg d m x,?_,?_,?_,?_,?_,?_⟩
 . intro x y b c;rw[E x y b c,E y x c b];exact H.comm x y
 . intro x y z b c f;rw[E _ z (M x y b c) f,E x y b c,E x _ b (M y z c f),E y z c f];exact H.assoc x y z
 . intro x b;rw[E 1 x H.q1 b];exact H.one x b
 . intro x b;rw[E 0 x (by have:=H.q1;omega) b];exact H.zero x
 . intro x y z b c f;rw[E x _ b (A y z),E x y b c,E x z b f];exact mulM_dist d md x y z
 . intro x b g;exact(E x _ b (h.tab.inv H g b).2.1).trans (h.tab.inv H g b).1
theorem addD_small{p:Nat}(_:0<p){m:Nat}(g:1<=m){a b:Nat}(c:a<p)(d:b<p):addD p m a b=(a+b) % p:=by obtain⟨k,rfl⟩:∃k,m=k+1:=⟨m-1,U0⟩;rw[addD_s,Nat.mod_eq_of_lt c,Nat.mod_eq_of_lt d,Nat.div_eq_of_lt c,Nat.div_eq_of_lt d,addD_zero];rfl
end Al
end Go.Proofs.YtndipkplnkfoeaaGreat
namespace Go.Proofs.YtndipkplnkfoeaaGreat
open Go.RowKit Pln
def powT(l lg:List Nat)(q x n:Nat):Nat:=if n=0 then 1 else if x=0 then 0 else l.getD (lg.getD x 0*(n % (q-1)) % (q-1)) 0
theorem pow_c(x n gb p m B:Nat)(md l:List Nat)(w:World)(hF:FT p m md l)(hG:GFAt w B gb p m l (logL l (p^m)))(hx:x<p^m)(hn:n<=1000000):
 zC 105 (Cn gb x n) w (Quiet (.tuple #[Y ((powT l (logL l (p^m)) (p^m) x n:Nat):Int),Y 0]) w):=by
 have i:=zH (in_c x gb p m B l _ w hG hx);have ad:=hF.small.q;have k:=hF.tab.len;have d:=logL_len l (p^m);have g:Hid (x≠0->(logL l (p^m)).getD x 0<p^m-1):=fun h=>hF.log hx h;have ac:=(qaV (p:=p) (m:=m) (by have:=hF.small.p1;omega) hF.small.m1 md).q1;obtain⟨_,_,_,W,ce,gl,cl,_,I,z,A,J,K⟩:=hG.cells;rw[k] at z;rw[d] at A;have s:=K x (by rw[d];exact hx);have v:Hid (∀j,j<p^m-1->w.cell? (zA W j)=some (Y ((l.getD j 0:Nat):Int))):=fun j hj=>J j (by rw[k];exact hj);clear J K k d hF hG;generalize logL l (p^m)=u at *;generalize p^m=q at *;by_cases b:n=0
 . (have o:Hid (powT l u q x n=1):=by show _=_;unfold powT;rw[if_pos b]);(have D:((n:Int)==0)=true:=by simp;exact b);clear b v g I z A s;go_enter Tryz.func105,Tryz.ntmps105;go_wp2_with (go_at_call 158;(with_reducible refine i.out.mono ?_);rintro e w' ⟨rfl,rfl⟩);go_ret2;exact⟨by rw[o.out];rfl,0,rfl⟩
 have D:((n:Int)==0)=false:=by simp;exact b
 have ab:¬(n:Int)<0:=U0;by_cases c:x=0
 . (have o:Hid (powT l u q x n=0):=by show _=_;unfold powT;rw[if_neg b,if_pos c]);(have H:((x:Int)==0)=true:=by simp;exact c);clear b c v g I z A s;go_enter Tryz.func105,Tryz.ntmps105;go_wp2_with (go_at_call 158;(with_reducible refine i.out.mono ?_);rintro e w' ⟨rfl,rfl⟩);go_ret2;exact⟨by rw[o.out];rfl,0,rfl⟩
 have H:((x:Int)==0)=false:=by simp;exact c
 have o:Hid (powT l u q x n=l.getD (u.getD x 0*(n % (q-1)) % (q-1)) 0):=by show _=_;unfold powT;rw[if_neg b,if_neg c]
 have aa:=g.out c;clear g c b;generalize u.getD x 0=f at *;have X:n % (q-1)<q-1:=Nat.mod_lt _ U0;have N:Hid (Int.tmod (n:Int) ((q:Int)-1)=((n % (q-1):Nat):Int)):=by show _=_;rw[<- qaY,Int.natCast_sub U0];rfl
 generalize n % (q-1)=a at *;have P:Hid (Int.tmod ((a:Int)+((q:Int)-1)) ((q:Int)-1)=(a:Int)):=by have h:Int.tmod (((a+(q-1):Nat)):Int) ((q-1:Nat):Int)=(((a+(q-1)) % (q-1):Nat):Int):=qaY _ _;rw[Nat.add_mod_right,Nat.mod_eq_of_lt X,Int.natCast_add,Int.natCast_sub U0] at h;exact h
 have E:f*a % (q-1)<q-1:=Nat.mod_lt _ U0;have t:f*a<=256*256:=Nat.mul_le_mul U0 U0;have Z:=v.out _ E;have y:Hid (Int.tmod ((f:Int)*(a:Int)) ((q:Int)-1)=((f*a % (q-1):Nat):Int)):=by show _=_;rw[<- qaY,Int.natCast_mul,Int.natCast_sub U0];rfl
 have C:(f:Int)*(a:Int)<=65536/\0<=(f:Int)*(a:Int):=by
  have:(f:Int)*(a:Int)=((f*a:Nat):Int):=by rw[Int.natCast_mul]
  omega
 have L:Hid (IntKind.i64.wrap ((f:Int)*(a:Int))=(f:Int)*(a:Int)):=IntWalk.i64_in _ U0;have M:Hid (IntKind.i64.wrap ((q:Int)-1)=(q:Int)-1):=IntWalk.i64_in _ U0;have O:Hid (IntKind.i64.wrap ((a:Int)+((q:Int)-1))=(a:Int)+((q:Int)-1)):=IntWalk.i64_in _ U0;clear v t C;generalize f*a % (q-1)=r at *;generalize l.getD r 0=res at *;have j1:(0:Int)<=(x:Int):=U0;have j2:(x:Int)<(q:Int):=U0;have j5:(0:Int)<=(r:Int):=U0;have j6:(r:Int)<((q-1:Nat):Int):=U0;have j7:¬(q:Int)-1=0:=U0;go_enter Tryz.func105,Tryz.ntmps105;have Q:=L.out;have R:=M.out;have S:=N.out;have T:=O.out;have U:=P.out;have V:=y.out;go_upto_region 10 with(go_at_call 158;(with_reducible refine i.out.mono ?_);rintro e w' ⟨rfl,rfl⟩);go_quiet (fail);clear Q R S T U V;go_wp2_with fail;go_ret2;exact⟨by rw[o.out];rfl,nq,rfl⟩
def ordT(lg:List Nat)(q x:Nat):Nat:=(q-1) / Nat.gcd (q-1) (lg.getD x 0)
def evN(O:Ops):List Nat->Nat->Nat
 |[],_=>0
 |a :: r,x=>O.add (O.mul (evN O r x) x) a
theorem evN_step{O:Ops}{v:List Nat}{k x:Nat}(b:k<v.length):evN O (v.drop k) x=O.add (O.mul (evN O (v.drop (k+1)) x) x) (v.getD k 0):=by
 rw[List.drop_eq_getElem_cons b];have:v.getD k 0=v[k]:=by simp[List.getD,b]
 rw[this];rfl
def RelEv(w:World)(q:Nat)(O:Ops)(v:List Nat)(x:Nat)(v7 v8:Value)(wr:World):Prop:=
 ∃(k y n:Nat)(i:Int),k<=v.length/\v7=Y y/\v8=Y i/\i+1=(k:Int)/\y<q/\evN O (v.drop k) x=y/\wr=w.drewN n
theorem eval_c(gb p m B:Nat)(md l v:List Nat)(x:Nat)(A:Option Addr)(c:Nat)(w:World)(hF:FT p m md l)(hG:GFAt w B gb p m l (logL l (p ^ m)))(hv:∀ a∈v,a<p ^ m)(hx:x<p ^ m)(hA:IntsAt w B A (nz v))(hl:v.length<=1000):
 zC 162 #[zP gb,zL A v.length c,Y x] w (Quiet (Y ((evN (opsT p m l) v x:Nat):Int)) w):=by
 have K:0<p^m:=by have:=hF.small.p1;exact Nat.pow_pos U0
 have M:Hid (∀y n,y<p^m->zC 142 (Cn gb y x) (w.drewN n) (Quiet (Y (((opsT p m l).mul y x:Nat):Int)) (w.drewN n))):=
  fun y n f=>mul_c y x gb p m B md l (w.drewN n) hF hG f hx
 have N:Hid (∀x y n,x<p^m->y<p^m->zC 143 (Cn gb x y) (w.drewN n) (Quiet (Y (((opsT p m l).add x y:Nat):Int)) (w.drewN n))):=
  fun x y n hx f=>add_c x y gb p m B l _ (w.drewN n) hF.small hG hx f
 have D:Hid (∀y,y<p^m->(opsT p m l).mul y x<p^m):=fun y f=>mulT_lt hF f hx;have u:Hid (∀x y,x<p^m->y<p^m->(opsT p m l).add x y<p^m):=fun x y _ _=>qdR (by have:=hF.small.p1;omega) m x y;have H:Hid (∀k,k<v.length->v.getD k 0<p^m):=fun k J=>by
  have:v.getD k 0=v[k]:=by simp[List.getD,J]
  rw[this];exact hv _ (List.getElem_mem J)
 have P:=zH hA;have h:Hid (RelEv w (p^m) (opsT p m l) v x (Y ((0:Nat):Int)) (Y ((v.length:Int)-1)) w):=⟨v.length,0,0,_,Nat.le_refl _,rfl,rfl,U0,K,by rw[List.drop_length];rfl,rfl⟩;clear hF hG hv hA;generalize opsT p m l=O at *;generalize p^m=q at *;have R:IntKind.i64.wrap ((v.length:Int)-1)=(v.length:Int)-1:=IntWalk.i64_in _ U0;go_enter Tryz.func162,Tryz.ntmps162;go_wp2_with fail;clear R;go_loopw [7,8] (fun v7 v8 wr=>RelEv w q O v x v7 v8 wr) (fun _ v8 _=>(intOf v8+1).toNat);case atStart=>exact h.out
 case round =>
  obtain⟨k,y,n,i,J,rfl,rfl,X,f,d,rfl⟩:=hrel;have b:=zH d;clear d h;rcases Nat.eq_zero_or_pos k with rfl|hk0
  . (obtain rfl:i=-1:=by omega);(have S:Hid (evN O v x=y):=by have:=b.out;rw[List.drop_zero] at this;exact this);go_wp2_with fail;go_ret;exact⟨qaG (by rw[S.out]),n,rfl⟩
  . obtain ⟨j,rfl⟩ : ∃ j,k = j + 1 := ⟨k - 1,U0⟩;obtain rfl:i=(j:Int):=U0;obtain ⟨U,Z,rfl,V,g⟩:=P.out.at_ (k:=j) (by rw [qaA];omega);rw [qaC] at g;(have E:Hid (evN O (v.drop j) x=O.add (O.mul y x) (v.getD j 0)):=by show _=_;rw [evN_step U0,b.out]);have Q:=H.out j U0;have k0:(0:Int)<=(j:Int):=U0;have k1:(j:Int)<(v.length:Int):=U0;have hw:IntKind.i64.wrap ((j:Int)-1)=(j:Int)-1:=IntWalk.i64_in _ U0;generalize v.getD j 0=z at *;(have C:Hid (∀ W,SDrew (w.drewN n) W->W.cell? (zA U (Z+j))=some (Y z)):=fun W ⟨j,hW⟩=>by subst hW;exact g);(have T:Hid (∀ W,SDrew (w.drewN n) W->zC 142 (Cn gb y x) W fun e w'=>e=.returned (Y ((O.mul y x:Nat):Int))/\SDrew (w.drewN n) w'):=fun W ⟨j,hW⟩=>by subst hW;rw [World.drewN_drewN];refine (M.out y _ f).mono ?_;rintro e w' ⟨he,i,rfl⟩;exact ⟨he,j+i,by rw [World.drewN_drewN,World.drewN_drewN,Nat.add_assoc]⟩);have r:=D.out y f;(have s:Hid (∀ W,SDrew (w.drewN n) W->zC 143 (Cn gb ((O.mul y x:Nat):Int) z) W fun e w'=>e=.returned (Y ((O.add (O.mul y x) z:Nat):Int))/\SDrew (w.drewN n) w'):=fun W ⟨j,hW⟩=>by subst hW;rw [World.drewN_drewN];refine (N.out _ z _ r Q).mono ?_;rintro e w' ⟨he,i,rfl⟩;exact ⟨he,j+i,by rw [World.drewN_drewN,World.drewN_drewN,Nat.add_assoc]⟩);have L:=u.out _ z r Q;clear g M N P;go_upto_region 5 with fail;refine qaD (SDrew (w.drewN n)) U1 U1 ⟨1,rfl⟩ ?_
    repeat (first
     | (apply qaJ rfl
        . intro W o
          have y0:=C.out W o
          go_simp
          try rfl
        go_simp)
     | (apply qaO rfl
        . intro W o
          go_simp
          exact⟨rfl,rfl⟩
        . intro W o
          first
           |exact T.out W o
           |exact s.out W o
        go_simp))
    refine qaE ?_;intro w2 I;obtain⟨t,rfl⟩:=I;rw[World.drewN_drewN];go_wp2_with fail;go_roundw;case rel=>exact⟨j,_,_,_,U0,rfl,rfl,U0,L,E.out,rfl⟩
    case measure=>first|(simp[intOf];done)|(simp[intOf];omega)
theorem trim_keep(v:List Nat)(A:Option Addr)(c:Nat)(w:World)(r:IntsAt w w.heap.size A (nz v))(s:0<v.length)(t:v.length<=1000)(q:v.getD (v.length-1) 0≠0):
 zC 255 #[zL A v.length c] w fun e w'=>e=.returned (zL A v.length c)/\w=w':=by
 obtain⟨b,o,rfl,j,d⟩:=r.at_ (k:=v.length-1) (by rw[qaA];omega);rw[qaC] at d;generalize v.getD (v.length-1) 0=x at *;have g:((x:Int)==0)=false:=beq_false_of_ne U0;obtain⟨n,f⟩:∃n,v.length=n+1:=⟨v.length-1,U0⟩;rw[f] at d ⊢;rw[show n+1-1=n by omega] at d;have i:IntKind.i64.wrap (((n+1:Nat):Int)-1)=(n:Int):=by rw[IntWalk.i64_in _ U0];omega
 have l:(0:Int)<=(n:Int):=U0;have m:(n:Int)<((n+1:Nat):Int):=U0;have p:(0:Int)<((n+1:Nat):Int):=U0;clear r q;generalize n+1=h at *;go_enter Tryz.func255,Tryz.ntmps255;go_wp2_with fail;go_loopw [0] (fun v0 wr=>v0=zL (some (zA b o)) h c/\wr=w) (fun _ _=>0);case atStart=>exact⟨rfl,rfl⟩
 case round=>obtain⟨rfl,rfl⟩:=hrel;go_wp2_with fail;go_ret;exact⟨rfl,rfl⟩
def canK(v:List Nat)(k:Nat):List Nat:=v.take k++List.replicate (v.length-k) 0
theorem canK_len(v:List Nat)(k:Nat)(b:k<=v.length):(canK v k).length=v.length:=by simp[canK];omega
theorem canK_set(v:List Nat)(k:Nat)(b:k<v.length):(canK v k).set k (v.getD k 0)=canK v (k+1):=by have h:=scK_set id v k b;unfold scK at h;unfold canK;simpa using h
def RelCn(w:World)(v:List Nat)(v13:Value)(wr:World):Prop:=
 ∃k:Nat,k<=v.length/\v13=Y k/\Row wr w.heap.size w.heap.size v.length (nz (canK v k))/\Below w.heap.size w wr
theorem canon_keep(gb p m:Nat)(l lg v:List Nat)(A:Option Addr)(c:Nat)(w:World)(hG:GFAt w w.heap.size gb p m l lg)(hv:∀ x∈v,x<p ^ m)(hA:IntsAt w w.heap.size A (nz v))(h0:0<v.length)(hl:v.length<=1000)(aa:v.getD (v.length-1) 0≠0):
 zC 235 #[zP gb,zL A v.length c] w fun e w'=>e=.returned (zS w.heap.size v.length v.length)/\Row w' w.heap.size w.heap.size v.length (nz v)/\Below w.heap.size w w':=by
 obtain⟨P,O,r,s,t⟩:=qaF infoInt;have R:=zH O;have K:=zH r;have L:=zH s;have C:=zH (show P.bytes*v.length<=281474976710656 by rw[t];omega);have D:=zH (show v.length<=maxLen by unfold maxLen;omega);have Q:=zH hA;have H:Hid (∀x W,x<p^m->Below w.heap.size w W->zC 196 (Db gb x) W fun e w'=>e=.returned (.bool true)/\W=w'):=fun x W hx z=>by have:=is_c (x:Int) gb p m w.heap.size l lg W (hG.keep z);rw[decide_eq_true (by omega:(0:Int)<=(x:Int)),decide_eq_true (by omega:(x:Int)<((p^m:Nat):Int))] at this;exact this
 have S:Hid (∀k,k<v.length->v.getD k 0<p^m):=fun k B=>by
  have:v.getD k 0=v[k]:=by simp[List.getD,B]
  rw[this];exact hv _ (List.getElem_mem B)
 have J:Hid (∀W,Row W w.heap.size w.heap.size v.length (nz v)->zC 255 #[zS w.heap.size v.length v.length] W fun e w'=>e=.returned (zS w.heap.size v.length v.length)/\W=w'):=fun W hr=>trim_keep v _ _ W (hr.ints hr.lt.2) h0 hl aa;clear O r s t hA hG hv aa;generalize p^m=q at *;go_enter Tryz.func235,Tryz.ntmps235;go_wp2_with (refine wpList_make_full w rfl (.tmp 9) (.tmp 9) 23 rfl w.heap.size 3 P (Y 0) 1 Tryz.underlying23 R.out K.out L.out .i64 .i64 v.length v.length v.length rfl rfl rfl rfl C.out D.out (Nat.le_refl _) ?_;intro V f n);have N:Hid (RelCn w v (Y ((0:Nat):Int)) V):=⟨0,U0,rfl,by have:=Row.of_make f;exact this,qaL n⟩;clear f n;go_loopw [13] (fun v13 wr=>RelCn w v v13 wr) (fun v13 _=>v.length-(intOf v13).toNat);case atStart=>exact N.out
 case round =>
  obtain⟨k,B,rfl,g,z⟩:=hrel;have y:=zH g;have u:=zH z;clear g z N;by_cases d:k<v.length
  . obtain⟨b,o,rfl,T,U⟩:=(Q.out.keep u.out).at_ (k:=k) (by rw[qaA];exact d);rw[qaC] at U;have M:=S.out k d;have I:=zH (canK_set v k d);have k0:(0:Int)<=(k:Int):=U0;have k1:(k:Int)<(v.length:Int):=U0;have Z:IntKind.i64.wrap ((k:Int)+1)=(k:Int)+1:=IntWalk.i64_in _ U0;have y0:=y.out.cell (j:=k) (by rw[qaA,canK_len v k B];exact d);have X:=y.out.frozen k;generalize v.getD k 0=x at *;have E:=zH (H.out x wr M u.out);go_wp2_with fail;refine E.out.mono ?_;rintro e w' ⟨rfl,rfl⟩;go_wp2_with fail;go_roundw;case rel=>exact⟨k+1,U0,gn,by rw[<- I.out,<- qbC];exact y.out.set k x,u.out.setCell (p:=(zA w.heap.size k)) (Nat.le_refl _) _⟩
    case measure=>exact mE
  . (obtain rfl:k=v.length:=by omega);(have i:Hid (Row wr w.heap.size w.heap.size v.length (nz v)):=by have h:=y.out;unfold canK at h;rw[List.take_length,Nat.sub_self,List.replicate_zero,List.append_nil] at h;exact h);have E:=zH (J.out wr i.out);go_wp2_with fail;refine E.out.mono ?_;rintro e w' ⟨rfl,rfl⟩;go_wp2_with fail;go_ret;exact⟨rfl,i.out,u.out⟩
theorem gfield_any(V B p m:Nat)(mod:List Int)(l lg:List Nat)(w:World)(X:GFM w B V p m mod l lg)(Z:B<=w.heap.size)(hl:mod.length<=1000000):
 zC 234 #[zP V] w fun e w'=>(∃A' c',e=.returned (Ch p m A' mod.length c')/\IntsUp w' w.heap.size A' mod)/\Below w.heap.size w w':=by
 have i:Hid (Below w.heap.size w (w.alloc (Cz))):=(Below.refl _ _).alloc (Nat.le_refl _) _;have o:Hid ((w.alloc (Cz)).heap[w.heap.size]?=some (Cz)):=heap_alloc_new _ _;have M:V<B:=X.1;have L:=zH X;clear X;go_enter Tryz.func234,Tryz.ntmps234;go_upto_region 1 with fail;generalize w.alloc (Cz)=c at *;have t:w.heap.size<c.heap.size:=block_lt o.out;obtain⟨_,J,K,Q,N,R,O,f,u,_,_⟩:=L.out.keep (i.out.mono Z);have n:=zH f;have D:=zH u
 have A:Hid (∀W,LSt c W->W.cell? (zA V 0)=some (Y (p:Int))/\W.cell? (zA V 1)=some (Y (m:Int))/\W.cell? (zA V 2)=some (zL J mod.length K)):=fun W y=>
  have I:=(Below.block y V U0).trans n.out
  ⟨cell_of_row _ _ 0 _ _ _ I,cell_of_row _ _ 1 _ _ _ I,cell_of_row _ _ 2 _ _ _ I⟩
 have E:Hid (LSt c c.drew):=(Below.refl _ _).drew;have b:Below c.heap.size c ((c.alloc (.cells #[] 3)).drew):=((Below.refl _ _).alloc (Nat.le_refl _) _).drew;obtain⟨A',c',x,g,v,s⟩:=run_copy_ints 23 c.heap.size J K mod ((c.alloc (.cells #[] 3)).drew) ((D.out.keep (b.mono U0)).more (by have:=b.size;omega)) hl;have z:=zH b;have r:=zH g;have H:=zH (v.lower b.size);have j:Hid (Below c.heap.size c x):=b.trans (s.mono b.size);clear f u b g v s;refine qbM 18 (LSt c) [(true,0),(true,1),(true,2),(true,3),(true,4),(true,5),(true,6),(true,7),(true,8),(true,9),(true,11),(true,12),(true,13),(true,14),(true,15),(false,10),(false,16),(true,17)] default U1 U1 (fun _ _ d _ _ h=>by cases d<;>exact h) E.out ?_;simp only[List.map_cons,List.map_nil,List.getD_cons_zero,List.getD_cons_succ]
 iterate 15
  apply qcH rfl
  . intro W y
    obtain⟨S,T,U⟩:=A.out W y
    go_simp
    rfl
  go_simp
 apply mix_step rfl
 . go_simp;exact⟨rfl,rfl⟩
 . exact z.out
 go_simp;refine mix_step rfl (exec_append (.tmp 13) (.tmp 18) 23 rfl rfl rfl r.out) j.out ?_;go_simp;apply qcH rfl
 . intro W y;go_simp;rfl
 go_simp;refine qeJ ?_;have q:Hid (x.heap[w.heap.size]?=some (Cz)):=(j.out.block _ t).trans o.out;have C:Hid ((x.setRow w.heap.size #[Y (p:Int),Y (m:Int),zL A' mod.length c']).heap[w.heap.size]?=some (Ce p m A' mod.length c')):=setRow_same _ _ _ _ _ q.out;go_wp2_with (refine wpList_store_row rfl 29 (.tmp 2) (.tmp 20) rfl x w.heap.size 29 #[Y 0,Y 0,zL none 0 0] #[Y (p:Int),Y (m:Int),zL A' mod.length c'] rfl rfl q.out fieldSize rfl sc ?_);refine bodyPost_ret (results_cell_row (P:=Tryz.prog) rfl _ _ w.heap.size 29 #[Y (p:Int),Y (m:Int),zL A' mod.length c'] (0,0) _ rfl C.out Tryz.underlying29 rfl fieldSize) rfl ?_;refine⟨⟨A',c',rfl,?_⟩,qaR (i.out.trans (j.out.mono i.out.size)) (Nat.le_refl _) _⟩;exact(H.out.of_blocks U2 fun k hk _=>setRow_other x w.heap.size k _ U0).lower U0
theorem prime_c(j B p m:Nat)(mod:List Int)(l n:List Nat)(w:World)(k:GFM w B j p m mod l n)(o:B<=w.heap.size)(q:mod.length<=1000000):
 zC 202 #[zP j] w fun e w'=>e=.returned (.tuple #[Y (p:Int),Y (m:Int)])/\Below w.heap.size w w':=by have f:=zH (gfield_any j B p m mod l n w k o q);clear k;go_enter Tryz.func202,Tryz.ntmps202;go_wp2_with fail;(with_reducible refine f.out.mono ?_);rintro e b ⟨⟨A',c',rfl,_⟩,hb⟩;have d:=zH hb;clear hb;go_upto_region 2 with(refine qaH rfl 29 (.tmp 4) (.tmp 6) rfl b _ #[Y (p:Int),Y (m:Int),zL A' mod.length c'] rfl rfl fieldSize rfl sc ?_);have h:(b.alloc (Ce p m A' mod.length c')).cell? (zA b.heap.size 0)=some (Y (p:Int)):=cell_of_row _ _ 0 _ _ _ (heap_alloc_new _ _);have i:(b.alloc (Ce p m A' mod.length c')).cell? (zA b.heap.size 1)=some (Y (m:Int)):=cell_of_row _ _ 1 _ _ _ (heap_alloc_new _ _);have c:Hid (Below w.heap.size w (b.alloc (Ce p m A' mod.length c'))):=d.out.alloc d.out.size _;generalize b.alloc (Ce p m A' mod.length c')=g at *;go_quiet (fail);go_wp2_with fail;go_ret2;exact⟨rfl,qaB c.out _⟩
def degB(m:Nat)(d:Int):Bool:=decide (1<=d) && (decide (d<=(m:Int)) && Int.tmod (m:Int) d==0)
theorem isdegree_c(q B p m:Nat)(d:Int)(mod:List Int)(l s:List Nat)(w:World)(r:GFM w B q p m mod l s)(v:B<=w.heap.size)(x:mod.length<=1000000)(_:m<=8):
 zC 203 (Db q d) w fun e w'=>e=.returned (.bool (degB m d))/\Below w.heap.size w w':=by
 have f:=zH (prime_c q B p m mod l s w r v x);clear r;by_cases j:1<=d
 . (have g : ¬ d < 1 := by omega);by_cases k:d<=(m:Int)
   . (have h : ¬(m : Int)< d:=by omega);have o:¬d=0:=U0;(have b:Hid (degB m d=(Int.tmod (m:Int) d==0)):=by show _=_;unfold degB;rw[decide_eq_true j,decide_eq_true k];rfl);go_enter Tryz.func203,Tryz.ntmps203;go_wp2_with fail;(with_reducible refine f.out.mono ?_);rintro e n ⟨rfl,hb⟩;obtain⟨t,ht⟩:∃t,Int.tmod (m:Int) d=t:=⟨_,rfl⟩;rw[ht] at b;by_cases c:t=0
     . subst c;go_wp2_with fail;go_ret;exact⟨by rw[b.out];rfl,hb⟩
     . have i:(t==0)=false:=beq_false_of_ne c;rw[i] at b;go_wp2_with fail;go_ret;exact⟨by rw[b.out];rfl,hb⟩
   . (have h:(m:Int)<d:=by omega);(have b:Hid (degB m d=false):=by show _=_;unfold degB;rw[decide_eq_false k,Bool.false_and,Bool.and_false]);go_enter Tryz.func203,Tryz.ntmps203;go_wp2_with fail;(with_reducible refine f.out.mono ?_);rintro e n ⟨rfl,hb⟩;go_wp2_with fail;go_ret;exact⟨by rw[b.out];rfl,hb⟩
 . (have g:d<1:=by omega);(have b:Hid (degB m d=false):=by show _=_;unfold degB;rw[decide_eq_false j,Bool.false_and]);go_enter Tryz.func203,Tryz.ntmps203;go_wp2_with fail;(with_reducible refine f.out.mono ?_);rintro e n ⟨rfl,hb⟩;go_wp2_with fail;go_ret;exact⟨by rw[b.out];rfl,hb⟩
end Go.Proofs.YtndipkplnkfoeaaGreat
namespace Go.Proofs.YtndipkplnkfoeaaGreat
namespace Al
structure Fd (K:Type) [Add K] [Mul K] [Neg K] [Zero K] [One K]:Prop where
 addC:∀x y:K,x+y=y+x
 addA:∀x y z:K,x+y+z=x+(y+z)
 addZ:∀x:K,0+x=x
 addN:∀x:K,x+-x=0
 mulC:∀x y:K,x*y=y*x
 mulA:∀x y z:K,x*y*z=x*(y*z)
 mulU:∀x:K,1*x=x
 dist:∀x y z:K,x*(y+z)=x*y+x*z
 inv:∀x:K,x≠0->∃y:K,x*y=1
 ne:(1:K)≠0
section
variable {K:Type} [Add K] [Mul K] [Neg K] [Zero K] [One K]
def pwr(x:K):Nat->K
 |0=>1
 |n+1=>pwr x n*x
def sm(n:Nat)(f:Nat->K):K:=
 match n with
 |0=>0
 |n+1=>sm n f+f n
theorem Fd.zadd(H:Fd K)(x:K):x+0=x:=by rw[H.addC,H.addZ]
theorem Fd.nadd(H:Fd K)(x:K):-x+x=0:=by rw[H.addC,H.addN]
theorem Fd.cancel(H:Fd K){x y z:K}(h:x+y=x+z):y=z:=by
 have b:-x+(x+y)=-x+(x+z):=by rw[h]
 rwa [<- H.addA,<- H.addA,H.nadd,H.addZ,H.addZ] at b
theorem Fd.mulZ(H:Fd K)(x:K):x*0=0:=by have h:=H.dist x 0 0;rw[H.addZ] at h;exact H.cancel (x:=x*0) (by rw[<- h,H.zadd])
theorem Fd.zmul(H:Fd K)(x:K):0*x=0:=by rw[H.mulC,H.mulZ]
theorem Fd.umul(H:Fd K)(x:K):x*1=x:=by rw[H.mulC,H.mulU]
theorem Fd.rdist(H:Fd K)(x y z:K):(x+y)*z=x*z+y*z:=by rw[H.mulC,H.dist,H.mulC z x,H.mulC z y]
theorem Fd.negm(H:Fd K)(x y:K):-x*y=-(x*y):=by refine H.cancel (x:=x*y) ?_;rw[<- H.rdist,H.addN,H.zmul,H.addN]
theorem Fd.mneg(H:Fd K)(x y:K):x*-y=-(x*y):=by rw[H.mulC,H.negm,H.mulC]
theorem Fd.negz(H:Fd K):-(0:K)=0:=by have h:=H.addN (0:K);rwa [H.addZ] at h
theorem Fd.subz(H:Fd K){x y:K}(h:x+-y=0):x=y:=by
 have b:x+-y+y=0+y:=by rw[h]
 rwa [H.addA,H.nadd,H.zadd,H.addZ] at b
theorem Fd.negu(H:Fd K){x y:K}(h:x+y=0):y=-x:=H.cancel (x:=x) (by rw[h,H.addN])
theorem Fd.mulne(H:Fd K){x y:K}(d:x≠0)(f:y≠0):x*y≠0:=fun h=>by
 obtain⟨z,c⟩:=H.inv x d
 have b:z*(x*y)=z*0:=by rw[h]
 rw[<- H.mulA,H.mulC z x,c,H.mulU,H.mulZ] at b
 exact f b
theorem Fd.pwr_add(H:Fd K)(x:K)(i:Nat):∀j,pwr x (i+j)=pwr x i*pwr x j
 |0=>by show pwr x i=pwr x i*1;rw[H.umul]
 |j+1=>by show pwr x (i+j)*x=pwr x i*(pwr x j*x);rw[Fd.pwr_add H x i j,H.mulA]
theorem Fd.pwr_mul(H:Fd K)(x:K)(i:Nat):∀j,pwr x (i*j)=pwr (pwr x i) j
 |0=>rfl
 |j+1=>by rw[Nat.mul_succ,H.pwr_add,Fd.pwr_mul H x i j];rfl
theorem Fd.pwr_prod(H:Fd K)(x y:K):∀ n,pwr (x*y) n=pwr x n*pwr y n
 |0=>(H.umul 1).symm
 |n + 1=>by
   show pwr (x*y) n*(x*y)=pwr x n*x*(pwr y n*y)
   rw[Fd.pwr_prod H x y n,H.mulA,H.mulA,<- H.mulA (pwr y n) x y,H.mulC (pwr y n) x,H.mulA]
theorem Fd.pwr_one(H:Fd K):∀n,pwr (1:K) n=1
 |0=>rfl
 |n+1=>by show pwr 1 n*1=(1:K);rw[H.umul,Fd.pwr_one H n]
theorem Fd.pwr_mod(H:Fd K){x:K}{n:Nat}(h:pwr x n=1)(k:Nat):pwr x (k % n)=pwr x k:=by
 have e:pwr x k=pwr x (n*(k / n))*pwr x (k % n):=by rw[<- H.pwr_add,Nat.div_add_mod]
 rw[e,H.pwr_mul,h,H.pwr_one,H.mulU]
theorem Fd.sm_zero(H:Fd K){n:Nat}{f:Nat->K}(h:∀j,j<n->f j=0):sm n f=0:=by
 induction n with
 |zero=>rfl
 |succ n ih=>show sm n f+f n=0;rw[ih fun j hj=>h j U0,h n U0,H.addZ]
theorem Fd.sm_congr(_:Fd K){n:Nat}{f g:Nat->K}(h:∀j,j<n->f j=g j):sm n f=sm n g:=by
 induction n with
 |zero=>rfl
 |succ n ih=>show sm n f+f n=sm n g+g n;rw[ih fun j hj=>h j U0,h n U0]
theorem Fd.sm_add(H:Fd K)(n:Nat)(f g:Nat->K):sm n (fun j=>f j+g j)=sm n f+sm n g:=by
 induction n with
 |zero=>exact(H.addZ 0).symm
 |succ n ih=>show sm n (fun j=>f j+g j)+(f n+g n)=(sm n f+f n)+(sm n g+g n);rw[ih,H.addA,H.addA,<- H.addA (sm n g),H.addC (sm n g) (f n),H.addA]
theorem Fd.sm_mul(H:Fd K)(n:Nat)(a:K)(f:Nat->K):sm n (fun j=>a*f j)=a*sm n f:=by
 induction n with
 |zero=>exact(H.mulZ a).symm
 |succ n ih=>show sm n (fun j=>a*f j)+a*f n=a*(sm n f+f n);rw[ih,H.dist]
theorem Fd.sm_lin(H:Fd K)(n:Nat)(a:K)(f g:Nat->K):sm n (fun j=>f j+a*g j)=sm n f+a*sm n g:=by rw[H.sm_add,H.sm_mul]
theorem Fd.sm_one(H:Fd K){n i:Nat}{f:Nat->K}(b:i<n)(h:∀j,j<n->j≠i->f j=0):sm n f=f i:=by
 induction n with
 |zero=>omega
 |succ n ih=>
  show sm n f+f n=f i;by_cases e:i=n
  . subst e;rw[H.sm_zero fun j hj=>h j U0 U0,H.addZ]
  . rw[ih U0 fun j hj hne=>h j U0 hne,h n U0 (fun e2=>e e2.symm),H.zadd]
def ev:List K->K->K
 |[],_=>0
 |a :: r,x=>a+x*ev r x
theorem Fd.ev_div(H:Fd K)(r:K):∀ l:List K,∃ l':List K,(l.length=0\/l'.length+1=l.length)/\∀ x,ev l x=ev l r+(x+-r)*ev l' x
 |[]=>⟨[],.inl rfl,fun x=>by show(0:K)=0+(x+-r)*0;rw[H.mulZ,H.addZ]⟩
 |[a]=>⟨[],.inr rfl,fun x=>by show a+x*0=a+r*0+(x+-r)*0;rw[H.mulZ,H.mulZ,H.mulZ,H.zadd,H.zadd]⟩
 | a :: b :: l => by
   obtain⟨l',h1,h2⟩:=Fd.ev_div H r (b :: l)
   refine⟨ev (b :: l) r :: l',.inr (by rcases h1 with h|h<;>simp at h ⊢;omega),fun x=>?_⟩
   show a+x*ev (b :: l) x=a+r*ev (b :: l) r+(x+-r)*(ev (b :: l) r+x*ev l' x)
   rw[h2 x]
   generalize ev (b :: l) r=E,ev l' x=G
   rw[H.addA]
   congr 1
   rw[H.dist,H.dist (x+-r),<- H.addA]
   have d:Std.Associative (α:=K) (·*·):=⟨H.mulA⟩
   have f:Std.Commutative (α:=K) (·*·):=⟨H.mulC⟩
   have c:r*E+(x+-r)*E=x*E:=by
    rw[<- H.rdist,<- H.addA,H.addC r x,H.addA,H.addN,H.zadd]
   rw[c]
   congr 1
   ac_rfl
theorem Fd.roots(H:Fd K):∀ (l:List K) (Z:List K),Z.Nodup->(∀ z∈Z,ev l z=0)->l.length<=Z.length->∀ x,ev l x=0
 |[],_,_,_,_,_=>rfl
 |a :: l,[],_,_,h,_=>by simp at h
 | a :: l,z :: Z,hn,hz,hl,x => by
   obtain⟨l',h1,h2⟩:=H.ev_div z (a :: l)
   have b:=hz z List.mem_cons_self
   rcases h1 with h1|h1
   . simp at h1
   rw[List.length_cons,List.length_cons] at hl
   rw[List.length_cons] at h1
   have f:l'.length<(a :: l).length:=by rw[List.length_cons];omega
   have d:=Fd.roots H l' Z (List.nodup_cons.1 hn).2 (fun y hy=>by
    have c:=hz y (List.mem_cons_of_mem _ hy)
    rw[h2 y,b,H.addZ] at c
    refine Classical.byContradiction fun h6=>H.mulne (fun e=>?_) h6 c
    have:=H.subz e
    subst this
    exact(List.nodup_cons.1 hn).1 hy) (by omega) x
   rw[h2 x,b,d,H.mulZ,H.addZ]
 termination_by l=>l.length
theorem Fd.ev_lin(H:Fd K)(c:K):∀ (l l':List K),l.length=l'.length->∀ x,ev (List.zipWith (fun a b=>a+c*b) l l') x=ev l x+c*ev l' x
 |[],[],_,x=>by show(0:K)=0+c*0;rw[H.mulZ,H.addZ]
 |[],_ :: _,h,_=>by simp at h
 |_ :: _,[],h,_=>by simp at h
 |a :: l,b :: l',h,x=>by
   show(a+c*b)+x*ev (List.zipWith (fun a b=>a+c*b) l l') x=(a+x*ev l x)+c*(b+x*ev l' x)
   rw[Fd.ev_lin H c l l' (by simpa using h) x]
   generalize ev l x=P,ev l' x=Q
   have i1:Std.Associative (α:=K) (·*·):=⟨H.mulA⟩
   have d:Std.Commutative (α:=K) (·*·):=⟨H.mulC⟩
   have f:Std.Associative (α:=K) (·+·):=⟨H.addA⟩
   have g:Std.Commutative (α:=K) (·+·):=⟨H.addC⟩
   rw[H.dist,H.dist]
   have e:x*(c*Q)=c*(x*Q):=by ac_rfl
   rw[e]
   ac_rfl
end
end Al
end Go.Proofs.YtndipkplnkfoeaaGreat
namespace Go.Proofs.YtndipkplnkfoeaaGreat
open Go.RowKit Pln
theorem mod_small{p m:Int}{mod:List Int}(h:fieldOK p m mod=true):mod.length<=8:=by
 have b:shapeM p m mod=true:=by unfold fieldOK at h;rw[Bool.and_eq_true] at h;exact h.1
 have d:=shape_is b;have f:=d.small.m2;by_cases c:m=1
 . unfold shapeM at b;rw[if_pos c,Bool.and_eq_true] at b;have:=b.2;rw[beq_iff_eq] at this;omega
 . have:=d.len c;omega
theorem rparity_c{p m:Nat}{md:List Nat}{A:Option Addr}{n y:Nat}{rows:List (List Nat)}{z:Option Addr}{w:World}(h:RCode p m md A n y rows z w)(c B:Nat):
 zC 45 #[Ck p m A n c y z rows.length B] w (NullPost w (p^m) y):=by
 have b:=zH (bx_new w (Ca p m A n c y z rows.length B) 32);have g:=h.n1;have o:=h.n2;have i:=h.len;have q:Hid (∀W:World,Below w.heap.size w W->zC 93 #[Ch p m A n c,zL z rows.length B,Y y] W (NullPost W (p^m) y)):=fun W hW=>by have j:=h.lift hW;exact rnull_c p m md A n c rows z B y W j.fld j.ft j.grid j.at_ g U0 i
 clear h;go_enter Tryz.func45,Tryz.ntmps45;go_upto_region 1 with fail;generalize w.alloc (Cf p m A n c y z rows.length B)=l at *;have f:=zH b.out.field;have d:=zH (q.out l b.out.below);have u:l.cell? (zA w.heap.size 3)=some (Y (y:Int)):=b.out.cell rfl;have v:l.cell? (zA w.heap.size 4)=some (zL z rows.length B):=b.out.cell rfl;go_wp2_with (refine wpList_load_mid rfl 29 (.tmp 3) rfl w.heap.size 0 rfl (Ci p m A n c) _ f.out Tryz.underlying29 rfl fieldSize ?_);refine d.out.mono ?_;rintro e x ⟨⟨A',R,ck,rfl,g,o,i⟩,hb⟩;have k:=zH (b.out.grow hb);have r:=zH g;have s:=zH o;have t:=zH i;clear hb g o i q d b f u v;go_wp2_with fail;go_ret;exact⟨⟨A',R,ck,rfl,r.out,s.out,t.out⟩,k.out.below⟩
def DualPost(w:World)(d:StD)(e:Ending)(w':World):Prop:=
 (∃(A':Option Addr)(c':Nat)(G:Option Addr)(R:List (List Nat))(k:Nat),e=.returned (.tuple #[Ck d.p d.m A' d.mod.length c' d.n G R.length k,Y 0])/\IntsAt w' w'.heap.size A' d.mod/\RowsAt w' w'.heap.size G (nzs R)/\R.length<=256)/\Below w.heap.size w w'
theorem rdual_c(d:StD)(Am:Option Addr)(cm:Nat)(A:Option Addr)(c:Nat)(w:World)(hz:codeZ d.p d.m d.mod d.n d.gen=0)(hM:IntsAt w w.heap.size Am d.mod)(hA:RowsAt w w.heap.size A d.gen):
 zC 26 #[Ck d.p d.m Am d.mod.length cm d.n A d.gen.length c] w (DualPost w d):=by
 have y:=zH (b2_new w (Ca d.p d.m Am d.mod.length cm d.n A d.gen.length c) 32 (Cd) 32);obtain⟨B,n1,n2,M,g,Q⟩:=code_form hz;have Z:=mod_small B;have t:=zH hM;have D:=zH hA;have s:Hid (∀W:World,Below w.heap.size w W->zC 8 #[Ck d.p d.m Am d.mod.length cm d.n A d.gen.length c] W fun e w'=>e=.returned (Y 0)/\Below W.heap.size W w'):=fun W b=>by have:=rcodecheck_c d.p d.m d.mod Am cm d.n d.gen A c W ((t.out.keep b).more b.size) U0 ((D.out.keep b).more b.size) U0;rw[hz] at this;exact this
 obtain⟨_,I,J,K,L⟩:=code_nat hz hM hA;have v:Hid (∀W:World,Below w.heap.size w W->zC 45 #[Ck d.p d.m Am d.mod.length cm d.n A d.gen.length c] W (NullPost W (d.p.toNat^d.m.toNat) d.n.toNat)):=fun W b=>by obtain⟨i,_⟩:=code_nat hz ((t.out.keep b).more b.size) ((D.out.keep b).more b.size);have:=rparity_c i cm c;rw[I,J,K,L] at this;exact this
 have u:Hid (∀(R:List (List Nat))(A2:Option Addr)(c2:Nat)(W:World),Below w.heap.size w W->Grid (d.p.toNat^d.m.toNat) R.length d.n.toNat R->RowsAt W W.heap.size A2 (nzs R)->R.length<=256->zC 44 #[Ch d.p d.m Am d.mod.length cm,zL A2 R.length c2,Y d.n] W fun e w'=>(∃(A':Option Addr)(c':Nat)(G:Option Addr)(R':List (List Nat))(k:Nat),e=.returned (Ck d.p d.m A' d.mod.length c' d.n G R'.length k)/\IntsUp w' W.heap.size A' d.mod/\RowsUp w' W.heap.size G (nzs R')/\R'.length<=256)/\Below W.heap.size W w'):=fun R A2 c2 W b hg hr hl=>by obtain⟨i,_⟩:=code_nat hz ((t.out.keep b).more b.size) ((D.out.keep b).more b.size);have:=rmake_c d.p.toNat d.m.toNat (mdOf d.m d.mod) Am d.mod cm R A2 c2 d.n.toNat W i.fld i.ft ((t.out.keep b).more b.size) U0 hg hr U0 U0 hl;unfold MakePost at this;rw[I,J,K] at this;exact this
 have X:=L;clear hM hA hz B M g I J K L t D;generalize d.p.toNat^d.m.toNat=q at *;generalize d.n.toNat=nn at *;go_enter Tryz.func26,Tryz.ntmps26;go_upto_region 1 with fail;generalize (w.alloc (Cf d.p d.m Am d.mod.length cm d.n A d.gen.length c)).alloc (Cc)=U at *;have x:=zH y.out.range;have r:=zH (s.out U y.out.below);go_wp2_with (refine wpList_load_mid rfl 32 (.tmp 1) rfl w.heap.size 0 rfl (Ca d.p d.m Am d.mod.length cm d.n A d.gen.length c) _ x.out Tryz.underlying32 rfl codeSize ?_);refine r.out.mono ?_;rintro e S ⟨rfl,hb1⟩;have z:=zH (y.out.grow hb1);have aa:=y.out.2.2.2;clear hb1 r x y s;go_upto_region 4 with fail;have l:Hid (B2 w (Ca d.p d.m Am d.mod.length cm d.n A d.gen.length c) 32 (Cd) 32 S.drew):=z.out.grow (Below.refl _ _).drew;refine qaS 7 7 (B2 w (Ca d.p d.m Am d.mod.length cm d.n A d.gen.length c) 32 (Cd) 32) [(1,0),(0,1),(0,2),(1,4),(0,5),(2,3),(2,6)] default U1 U1 (fun _ _ d _ _ h=>by cases d<;>exact h) l.out ?_;simp only[List.map_cons,List.map_nil,List.getD_cons_zero,List.getD_cons_succ];generalize S.drew=V at *;clear z;apply qaM rfl
 . intro W;go_simp;rfl
 go_simp;refine qaT rfl 29 (.tmp 11) rfl w.heap.size 0 rfl (Ci d.p d.m Am d.mod.length cm) _ (fun W b=>b.field) Tryz.underlying29 rfl fieldSize ?_;go_simp;refine qaT rfl 32 (.tmp 1) rfl w.heap.size 0 rfl (Ca d.p d.m Am d.mod.length cm d.n A d.gen.length c) _ (fun W b=>b.range) Tryz.underlying32 rfl codeSize ?_;go_simp;apply qaM rfl
 . intro W;go_simp;rfl
 go_simp;apply qbF rfl
 . intro W b;have z0:W.cell? (zA w.heap.size 3)=some (Y d.n):=b.cell rfl;go_simp;rfl
 go_simp;apply qbE rfl
 . go_simp;exact⟨rfl,rfl⟩
 with_reducible refine(v.out V l.out.below).mono ?_
 rintro e N ⟨⟨A',R,ck,rfl,hra,g,hrl⟩,hb2⟩;have f:=zH (l.out.grow hb2);have j:=zH (u.out R A' ck N f.out.below g hra hrl);refine⟨_,rfl,f.out,?_⟩;clear hb2 hra g u v;go_simp;apply qbE rfl
 . go_simp;exact⟨rfl,rfl⟩
 with_reducible refine j.out.mono ?_
 rintro e C ⟨⟨B',c',G,R',k',rfl,hi3,hr3,hl3⟩,hb3⟩;have o:=zH (f.out.grow hb3);have E:=zH hi3;have H:=zH hr3;have ab:=f.out.2.2.2;refine⟨_,rfl,o.out,?_⟩;clear hb3 hi3 hr3 j;go_simp;refine qbH ?_;show wpList _ _ _ _ _ _;go_simp;have T:=zH o.out.2.1;have O:=zH (o.out.set (Ca d.p d.m B' d.mod.length c' d.n G R'.length k'));go_wp2_with (refine wpList_store_row rfl 32 (.tmp 2) (.tmp 17) rfl C (w.heap.size+1) 32 (Cb) (Cl d.p d.m B' d.mod.length c' d.n G R'.length k') rfl rfl T.out codeSize rfl sc ?_);refine bodyPost_ret (results_row_one (P:=Tryz.prog) rfl _ _ (w.heap.size+1) 32 (Cl d.p d.m B' d.mod.length c' d.n G R'.length k') (0,0) _ _ rfl rfl O.out.2.1 Tryz.underlying32 rfl codeSize) rfl ?_;have hu:IntsUp (C.setRow (w.heap.size+1) (Cl d.p d.m B' d.mod.length c' d.n G R'.length k')) N.heap.size B' d.mod:=E.out.of_blocks U2 fun k hk _=>setRow_other C (w.heap.size+1) k _ U0;have hv:RowsUp (C.setRow (w.heap.size+1) (Cl d.p d.m B' d.mod.length c' d.n G R'.length k')) N.heap.size G (nzs R'):=H.out.of_blocks U2 fun k hk _=>setRow_other C (w.heap.size+1) k _ U0;exact⟨⟨B',c',G,R',k',rfl,hu.ints,hv.rowsAt,hl3⟩,O.out.below⟩
end Go.Proofs.YtndipkplnkfoeaaGreat
