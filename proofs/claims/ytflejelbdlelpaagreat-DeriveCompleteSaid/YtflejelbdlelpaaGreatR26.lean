/- Parts of the proof. -/
import Derived.Test.YtflejelbdlelpaaGreatR25
import Derived.Test.YtflejelbdlelpaaGreatR23
import Derived.RangeFuncCalls
import Derived.RangeFuncBox
import Derived.OwnWalkIn
import Derived.TacticsInMore
import Derived.RangeFuncBound
import Derived.LoopNIn
import Derived.LoopIn
set_option maxRecDepth 100000
set_option maxHeartbeats 8000000
namespace Go.Proofs.YtflejelbdlelpaaGreat
open Go.RowKit Pln Go.Proofs.Tryz
section
variable {P:Program} {S:Wo->Prop} {K:Act->Wo->Prop} {o:Oper} {r:List (Nat × Oper)} {a:Act} {w:Wo}
end
theorem qaP{P:Program}{ops:Array Oper}{rest:List Oper}{o:Oper}{a:Act}{w:Wo}{Q:Exit->Act->Wo->Prop}(b:o.guard=none)(s x:Operand)(t:TypeId)(c:o.op=.call { callee:=.builtin .append,args:=#[s,x],argTypes:=#[t,t] }){v1 v2 v:Value}{w':Wo}(f:a.eval s=v1)(g:a.eval x=v2)(d:(Builtin.append_ #[t,t] o.type #[v1,v2]).run P w=.ok v w')(h:wpList P ops Q rest (a.put o.dst v) w'):wpList P ops Q (o :: rest) a w:=
 wpList_plain b fun K hK=>by
  unfold Oper.wp execOp
  simp only[c,resolve,invoke,builtin,Sem.run_bind,Sem.run_pure,Result.andThen_ok,List.map_toArray,List.map_cons,List.map_nil,f,g,d]
  exact hK _ _ h
theorem clone_any(zs:LI)(A:OA)(c:Nat)(w:Wo)(p:zI w A zs)(q:zs.length<=1000000):
 zC 68 #[zL A zs.length c] w fun e w'=>(∃(A':OA)(c':Nat),e=.returned (zL A' zs.length c')/\IntsUp w' w.heap.size A' zs)/\zB w w':=by
 rcases Nat.eq_zero_or_pos zs.length with h0|h0
 . have l : zs = []:=List.length_eq_zero_iff.1 h0;subst l;have f:∀(W:Wo)(A':OA),IntsUp W w.heap.size A' []:=fun W A' h=>absurd h U2;clear p q h0;cases A with
   |none=>have k:∀(W:Wo),(binOp .eql 22 (zL none 0 c) (zL none 0 0)).run prog W=.ok (.bool true) W:=fun W=>Lib.run_eql_slice_nil W 22 3 none 0 c 0 0 underlying22;go_enter func68,ntmps68;go_wp2;go_ret;exact⟨⟨none,0,rfl,f _ _⟩,Below.refl _ _⟩
   |some ad=>have k:∀(W:Wo),(binOp .eql 22 (zL (some ad) 0 c) (zL none 0 0)).run prog W=.ok (.bool false) W:=fun W=>Lib.run_eql_slice_nil W 22 3 (some ad) 0 c 0 0 underlying22;have m:zK (zB w (w.alloc (.cells #[] 3))):=zV.alloc zn _;obtain⟨A',c',w',b,_,n⟩:=run_copy_ints 22 w.heap.size (some ad) c [] (w.alloc (.cells #[] 3)) (fun h=>absurd h U2) U2;have d:=zH b;have i:=zH (m.o.trans (n.mono m.o.size));clear b n;go_enter func68,ntmps68;go_wp2_with (at_builtin;refine qaP rfl (.tmp 5) (.tmp 6) 22 rfl rfl rfl d.o ?_);go_ret;exact⟨⟨A',c',rfl,f _ _⟩,i.o⟩
 . exact(sclone_c zs A c w p h0 q).mono fun e w' ⟨⟨g,c',h1,h2⟩,h3⟩=>⟨⟨_,c',h1,fun hz=>⟨g,0,rfl,h2.lt.1,h2.lt.2,fun j hj=>by rw[Nat.zero_add];exact h2.cell hj⟩⟩,h3⟩
theorem own_any(p m:Int)(mod:LI)(C:OA)(D:Nat)(w:Wo)(E:zI w C mod)(H:mod.length<=1000000):
 zC 192 #[C4 p m C mod.length D] w fun e w'=>(∃(A':OA)(c':Nat),e=.returned (C4 p m A' mod.length c')/\IntsUp w' w.heap.size A' mod)/\zB w w':=by
 have b:zK (zB w ((w.alloc (C2 p m C mod.length D)).alloc (Cr))):=(zV.alloc zn _).alloc U2 _;have c:zK (w.heap.size+1<((w.alloc (C2 p m C mod.length D)).alloc (Cr)).heap.size):=by show _ < _;simp
 have j:zK (((w.alloc (C2 p m C mod.length D)).alloc (Cr)).heap[w.heap.size]?=some (.cells (C5 p m C mod.length D).toArray 24 (0,0))):=(heap_alloc_old _ _ U2).trans (heap_alloc_new _ _);have l:zK (((w.alloc (C2 p m C mod.length D)).alloc (Cr)).heap[w.heap.size+1]?=some (Cr)):=alloc_at U2 _;have s:=zH E;clear E;go_enter func192,ntmps192;go_wp2_with fail;generalize (w.alloc (C2 p m C mod.length D)).alloc (Cr)=u at *;have r:=zH (clone_any mod C D u ((s.o.keep b.o).more b.o.size) H);go_fit r.o;rintro e d ⟨⟨A',c',rfl,hup⟩,hb1⟩;have h:=zH (b.o.trans (hb1.mono b.o.size));have f:=(hb1.block w.heap.size (by have:=c.o;omega)).trans j.o;have v:=(hb1.block (w.heap.size+1) c.o).trans l.o;have B:d.cell? (zA w.heap.size 2)=some (zL C mod.length D):=cell_of_row _ _ 2 _ _ _ f;have z:d.frozen? (zA w.heap.size 2)=false:=by simp[World.frozen?,f]
 have y:=zH (heap_set_same f 2 (zL A' mod.length c'));have t:=zH ((Below.heap_setCell d (zA w.heap.size 2) (zL A' mod.length c') (w.heap.size+1) (by show w.heap.size+1≠w.heap.size;omega)).trans v);have i:=zH (h.o.setCell (p:=(zA w.heap.size 2)) zn (zL A' mod.length c'));have A:=c.o;have x:zK (IntsUp (d.setCell (zA w.heap.size 2) (zL A' mod.length c')) u.heap.size A' mod):=hup.of_blocks U2 fun k hk _=>Below.heap_setCell d (zA w.heap.size 2) _ k (by show k≠w.heap.size;omega);clear hup hb1 f v r s;go_upto_region 2 with fail;generalize d.setCell (zA w.heap.size 2) (zL A' mod.length c')=g at *;clear B z;have q:zK (g.rangeAt w.heap.size 0 (C5 p m A' mod.length c')):=qeL y.out;have n:zK ((g.setRow (w.heap.size+1) #[Y p,Y m,zL A' mod.length c']).heap[w.heap.size+1]?=some (C2 p m A' mod.length c')):=setRow_same _ _ _ _ _ t.out;go_wp2_with (first|(refine wpList_load_mid rfl 24 (.tmp 1) rfl w.heap.size 0 rfl (C5 p m A' mod.length c') _ q.o underlying24 rfl fieldSize ?_)|(refine wpList_store_row rfl 24 (.tmp 2) (.tmp 7) rfl g (w.heap.size+1) 24 #[Y 0,Y 0,zL none 0 0] #[Y p,Y m,zL A' mod.length c'] rfl rfl t.out fieldSize rfl sc ?_));refine bodyPost_ret (results_cell_row (P:=prog) rfl _ _ (w.heap.size+1) 24 #[Y p,Y m,zL A' mod.length c'] (0,0) _ rfl n.o underlying24 rfl fieldSize) rfl ?_;refine⟨⟨A',c',rfl,?_⟩,qaR i.o U0 _⟩;exact(x.o.of_blocks U2 fun k hk _=>setRow_other g (w.heap.size+1) k _ U0).lower (by have:=b.o.size;omega)
def OfPostA(w:Wo)(p m:Int)(mod:LI)(cols:Int)(A:OA)(n c:Nat)(e:Ending)(w':Wo):Prop:=
 (∃(A':OA)(c':Nat),e=.returned (.tuple #[C7 p m A' mod.length c' cols A n c,Y 0])/\IntsUp w' w.heap.size A' mod)/\zB w w'
theorem of_any(p m:Int)(mod:LI)(C:OA)(D:Nat)(cols:Int)(A:OA)(n c:Nat)(w:Wo)(E:zI w C mod)(H:mod.length<=1000000):
 zC 148 #[C4 p m C mod.length D,Cp cols A n c,Y 0] w (OfPostA w p m mod cols A n c):=by
 have f:zK (BoxC w (C5 p m C mod.length D) [Y cols,zL A n c] (Co) (((w.alloc (C2 p m C mod.length D)).alloc (C9 cols A n c)).alloc (Ce))):=boxC w _ _ _;have v:=zH E;clear E;go_enter func148,ntmps148;go_upto_region 3 with fail;generalize ((w.alloc (C2 p m C mod.length D)).alloc (C9 cols A n c)).alloc (Ce)=b at *;have j:zK (∀W,LSt b W->W.rangeAt w.heap.size 0 (C5 p m C mod.length D)):=fun W i=>qeL (f.o.keep i).k0;have q:zK (∀W,LSt b W->W.cell? (zA (w.heap.size+1) 0)=some (Y cols)/\W.cell? (zA (w.heap.size+1) 1)=some (zL A n c)):=fun W i=>⟨cell_of_row _ _ 0 _ _ _ (f.o.keep i).k1,cell_of_row _ _ 1 _ _ _ (f.o.keep i).k1⟩;have g:zK (LSt b b.drew):=zV.drew
 have u:zK (zC 192 #[C4 p m C mod.length D] b.drew fun e w'=>(∃(A':OA)(c':Nat),e=.returned (C4 p m A' mod.length c')/\IntsUp w' b.heap.size A' mod)/\zB b w'):=
  (own_any p m mod C D b.drew (((v.o.keep f.o.below).keep (g.o.mono f.o.below.size)).more f.o.below.size) H).mono fun e w' ⟨h1,h2⟩=>⟨h1,g.o.trans h2⟩
 refine qbM 7 (LSt b) [(true,0),(true,2),(true,3),(true,4),(true,5),(false,1),(true,6)] default U1 U1 (fun _ _ d _ _ h=>by cases d<;>exact h) g.o ?_;simp only[List.map_cons,List.map_nil,List.getD_cons_zero,List.getD_cons_succ];refine qcS rfl 24 (.tmp 3) rfl w.heap.size 0 rfl (C5 p m C mod.length D) _ j.o underlying24 rfl fieldSize ?_;go_simp
 iterate 4
  apply qcH rfl
  . intro W i
    obtain⟨z,B⟩:=q.o W i
    go_simp
    rfl
  go_simp
 apply qcE rfl
 . go_simp;exact⟨rfl,rfl⟩
 with_reducible refine u.o.mono ?_
 rintro e t ⟨⟨A',c',rfl,hu⟩,hb1⟩;refine⟨_,rfl,hb1,?_⟩;go_simp;apply qcH rfl
 . intro W i;go_simp;rfl
 go_simp;refine qeJ ?_;have l:=zH (f.o.keep hb1);have r:=zH l.o.k2;have s:=zH (l.o.set (C3 p m A' mod.length c' cols A n c));have x:=zH hu;have y:=f.o.size;clear hu hb1;go_wp2_with (refine wpList_store_row rfl 27 (.tmp 6) (.tmp 18) rfl t (w.heap.size+1+1) 27 #[Y 0,Y 0,zL none 0 0,Y 0,zL none 0 0] (Cb p m A' mod.length c' cols A n c) rfl rfl r.o codeSize rfl sc ?_);refine bodyPost_ret (results_row_one (P:=prog) rfl _ _ (w.heap.size+1+1) 27 (Cb p m A' mod.length c' cols A n c) (0,0) _ _ rfl rfl s.o.k2 underlying27 rfl codeSize) rfl ?_;refine⟨⟨A',c',rfl,?_⟩,s.o.below⟩;exact(x.o.of_blocks U2 fun k hk _=>setRow_other t (w.heap.size+1+1) k _ U0).lower U0
def LSkA(a w:Wo):Prop:=zB a w
def RelDuA(n:Nat)(K:LL)(w1:Wo)(v5 v6:Value)(wx:Wo):Prop:=
 ∃(b:Nat)(A':OA)(c':Nat),v5=zP b/\v6=Y 0/\wx.heap[b]?=some (.cells [Y (n:Int),zL A' K.length c'].toArray 60 (0,0))/\RowsUp wx w1.heap.size A' (nzs K)/\zB w1 wx
def DuaPost(p m:Int)(mod:LI)(n:Nat)(K:LL)(w:Wo)(e:Ending)(w':Wo):Prop:=
 (∃(A2:OA)(c2:Nat)(A':OA)(c':Nat),e=.returned (.tuple #[C7 p m A2 mod.length c2 n A' K.length c',Y 0])/\RowsUp w' w.heap.size A' (nzs K))/\zB w w'
def DuaAll(p m:Int)(mod:LI)(n:Nat)(K:LL)(w:Wo)(e:Ending)(w':Wo):Prop:=
 (∃(A2:OA)(c2:Nat)(A':OA)(c':Nat),e=.returned (.tuple #[C7 p m A2 mod.length c2 n A' K.length c',Y 0])/\RowsUp w' w.heap.size A' (nzs K)/\IntsUp w' w.heap.size A2 mod)/\zB w w'
theorem dual_all(p m:Int)(mod:LI)(Am:OA)(cm n:Nat)(rows:LL)(A:OA)(c:Nat)(K:LL)(w:Wo)(hM:zI w Am mod)(hl:mod.length<=1000000)(hG:zR w A (nzs rows))(al:rows.length<=1000000)(hz:codeZ p m mod (n:Int) (nzs rows)=0)(ak:1<=n)(aj:errC p m mod (n:Int) (nzs rows)=0)(hK:kerM (opsT p.toNat m.toNat (lOf p m mod)) rows n=K):
 zC 93 #[C7 p m Am mod.length cm n A rows.length c] w (DuaAll p m mod n K w):=by
 have t:=zH (b2_new w (C3 p m Am mod.length cm n A rows.length c) 27 (Co) 27);have U:=zH hG;have Q:=zH hM;have HZ:=zH hz;have HE:=zH aj;have B:=zH hK;clear hG hM hz aj hK;go_enter func93,ntmps93;go_upto_region 1 with fail;generalize (w.alloc (C8 p m Am mod.length cm n A rows.length c)).alloc (Ce)=L at *;have l:=zH t.o.range;have y:zK (zC 27 #[C7 p m Am mod.length cm n A rows.length c] L fun e w'=>e=.returned (Y 0)/\zB L w'):=by have h:=codecheck_c p m mod Am cm n (nzs rows) A c L ((Q.o.keep t.o.below).more t.o.below.size) U0 ((U.o.keep t.o.below).more t.o.below.size) (by rw[nzs_len];omega);rw[HZ.o,nzs_len] at h;exact h
 go_wp2_with (refine wpList_load_mid rfl 27 (.tmp 1) rfl w.heap.size 0 rfl (C3 p m Am mod.length cm n A rows.length c) _ l.o underlying27 rfl codeSize ?_);go_fit y.o;rintro e j ⟨rfl,hb1⟩;have g:=zH (t.o.grow hb1);clear hb1 y t l;clear L;have C:zK (∀W,LSkA j W->W.rangeAt w.heap.size 0 (C3 p m Am mod.length cm n A rows.length c)):=fun W hW=>(g.o.grow hW).range;have D:zK (∀W,LSkA j W->W.rangeAt w.heap.size 0 (C5 p m Am mod.length cm)):=fun W hW=>(g.o.grow hW).field;have I:zK (LSkA j j.drew):=zV.drew;have s:zK (∀W,LSkA j W->zC 147 #[C4 p m Am mod.length cm,Cp n A rows.length c] W fun e w'=>(∃(f:OA)(i:Nat),e=.returned (.tuple #[Cp n f K.length i,Y 0])/\RowsUp w' W.heap.size f (nzs K))/\zB W w'):=fun W hW=>by have h:=kernel_c p m mod Am cm n rows A c W ((((Q.o.keep g.o.below).more g.o.below.size).keep hW).more (Below.size hW)) U0 ((((U.o.keep g.o.below).more g.o.below.size).keep hW).more (Below.size hW)) ak HE.o;rw[B.o] at h;exact h
 go_upto_region 4 with fail;go_cut [5,6] (fun v5 v6 wx=>RelDuA n K j v5 v6 wx);case first =>
  refine wp_region_mixx 10 9 8 (LSkA j) [(1,0),(0,1),(0,2),(2,3),(2,4),(1,5),(1,6),(1,7)] [(3,9)] default _ (Cs) U1 U1 (fun _ _ d _ _ h=>by cases d<;>exact h) rfl rfl ?_ (fun W hW=>Below.alloc hW (Below.size hW) _) I.o ?_
  . intro a w;unfold ptrTo;go_simp
  simp only[List.map_cons,List.map_nil,List.getD_cons_zero,List.getD_cons_succ];apply x_free rfl
  . intro W;go_simp;rfl
  go_simp;refine x_load_mid rfl 24 (.tmp 14) rfl w.heap.size 0 rfl (C5 p m Am mod.length cm) _ D.o underlying24 rfl fieldSize ?_;go_simp;refine x_load_mid rfl 27 (.tmp 1) rfl w.heap.size 0 rfl (C3 p m Am mod.length cm n A rows.length c) _ C.o underlying27 rfl codeSize ?_;go_simp;apply x_call rfl
  . intro W;go_simp;exact⟨rfl,rfl⟩
  intro W1 af M;with_reducible refine(gen_c p m Am mod.length cm n A rows.length c W1).mono ?_
  rintro e x ⟨rfl,hb2⟩;refine⟨_,rfl,Below.trans M (hb2.mono (Below.size M)),hb2,?_⟩;go_simp;apply x_call rfl
  . intro W;go_simp;exact⟨rfl,rfl⟩
  intro W3 ag r;have z:=zH (s.o W3 r);with_reducible refine z.o.mono ?_
  rintro e w4 ⟨⟨f,i,rfl,hr4⟩,hb4⟩;refine⟨_,rfl,Below.trans r (hb4.mono (Below.size r)),hb4,?_⟩;go_simp
  iterate 3
   apply x_free rfl
   . intro W
     go_simp
     rfl
   go_simp
  refine x_nil ?_;intro W7 b u N O hF v;have ae:j.heap.size<=W3.heap.size:=Below.size r;have ac:¬(W3.heap.size<=b/\b<w4.heap.size):=fun h=>hF (.inr h)
  have ab:zK (RowsUp (W7.setRow b #[Y (n:Int),zL f K.length i]) j.heap.size f (nzs K)):=
   (hr4.of_blocks (by simpa using u.size) (fun k hk1 hk2=>by rw[setRow_other _ _ _ _ U0,u.block k hk2])).lower ae
  have X:zK ((W7.setRow b #[Y (n:Int),zL f K.length i]).heap[b]?=some (.cells [Y (n:Int),zL f K.length i].toArray 60 (0,0))):=setRow_same _ _ _ _ _ v;have S:zK (zB j (W7.setRow b #[Y (n:Int),zL f K.length i])):=qaR N O _;unfold ptrTo;refine qcA rfl 60 (.tmp 5) (.tmp 19) rfl b 60 (Cq) #[Y (n:Int),zL f K.length i] rfl rfl v matSize rfl sc ?_;go_simp;refine qbH ?_;show wpList _ _ _ _ _ _;clear hr4 hb4 u N O hF v ac z;go_wp2;go_meet;exact⟨b,f,i,rfl,rfl,X.o,ab.o,S.o⟩
 case rest=>
  obtain⟨b,f,i,rfl,rfl,R,hr,hb⟩:=hcut;have q:=zH (g.o.grow hb);have H:=zH hr;have T:=zH hb.size;have l:=zH q.o.field;have E:zK (wc.rangeAt b 0 [Y (n:Int),zL f K.length i]):=qeL R;have ad:w.heap.size<=j.heap.size:=g.o.below.size;have ai:w.heap.size+1<j.heap.size:=g.o.2.2.2;have Z:=zH (of_any p m mod Am cm (n:Int) f K.length i wc ((Q.o.keep q.o.below).more q.o.below.size) hl);clear R hr hb g C D I s
  go_wp2_with (first
   |(refine wpList_load_mid rfl 24 (.tmp 21) rfl w.heap.size 0 rfl (C5 p m Am mod.length cm) _ l.o underlying24 rfl fieldSize ?_)
   |(refine wpList_load_mid rfl 60 (.tmp 5) rfl b 0 rfl [Y (n:Int),zL f K.length i] _ E.o underlying60 rfl matSize ?_))
  clear Q HZ HE B U;go_fit Z.o;rintro e x ⟨⟨A2,c2,rfl,hi2⟩,hb2⟩;have V:=zH hi2;have J:=zH (q.o.grow hb2);have aa:=zH (H.o.grow hb2);have HK:=zH J.o.2.1;have HY:=zH (J.o.set (C3 p m A2 mod.length c2 n f K.length i));clear hi2 hb2 q H l E;go_wp2_with (refine wpList_store_row rfl 27 (.tmp 2) (.tmp 26) rfl x (w.heap.size+1) 27 #[Y 0,Y 0,zL none 0 0,Y 0,zL none 0 0] (Cb p m A2 mod.length c2 n f K.length i) rfl rfl HK.o codeSize rfl sc ?_);refine bodyPost_ret (results_row_one (P:=prog) rfl _ _ (w.heap.size+1) 27 (Cb p m A2 mod.length c2 n f K.length i) (0,0) _ _ rfl rfl HY.o.2.1 underlying27 rfl codeSize) rfl ?_;have hv:RowsUp (x.setRow (w.heap.size+1) (Cb p m A2 mod.length c2 n f K.length i)) j.heap.size f (nzs K):=aa.o.of_blocks U2 fun k R _=>setRow_other x (w.heap.size+1) k _ U0;have ah:j.heap.size<=wc.heap.size:=T.o;have hi:IntsUp (x.setRow (w.heap.size+1) (Cb p m A2 mod.length c2 n f K.length i)) wc.heap.size A2 mod:=V.o.of_blocks U2 fun k R _=>setRow_other x (w.heap.size+1) k _ U0;exact⟨⟨A2,c2,f,i,rfl,hv.lower ad,hi.lower U0⟩,HY.o.below⟩
theorem app_int{W:Wo}{B:Nat}{v:Value}{l:LN}(x p:Nat)(h:Num W B v l)(q:B<=W.heap.size)(s:l.length<=1000)(r:W.heap[p]?=some (.cells #[Y (x:Int)] 3 (0,0))):
 ∃(v':Value)(w':Wo),(Builtin.append_ #[22,22] 22 #[v,zS p 1 1]).run prog W=.ok v' w'/\Num w' B v' (l++[x])/\W.grownBy w' v.ownBlock:=by obtain⟨o,n,f,g,i⟩:=qaF infoInt;have d:=qeL r;obtain⟨v',w',c,b,m,_,_⟩:=run_append_own_at (P:=prog) (w:=W) B 22 22 3 o _ 1 8 underlying22 n f g i rfl dc v l.length _ h (zA p 0) 1 1 [Y (x:Int)] rfl (fun j u hj=>by rw[Addr.add_mid];exact d j u hj) (by intro u k;simp at k;subst k;rfl) ml U0 q;exact⟨v',w',c,Num.step b,m⟩
def CkS(bc:Nat)(v:Value)(br o x:Nat)(W:Wo):Prop:=W.heap[bc]?=some (.cells [v].toArray 22 (0,0))/\W.cell? (zA br o)=some (Y (x:Int))
end Go.Proofs.YtflejelbdlelpaaGreat
namespace Go.Proofs.YtflejelbdlelpaaGreat
open Go.RowKit Pln
def ordT(lg:LN)(q x:Nat):Nat:=(q-1) / Nat.gcd (q-1) (lg.getD x 0)
def evN(O:Ops):LN->Nat->Nat
 |[],_=>0
 |a :: r,x=>O.add (O.mul (evN O r x) x) a
structure RtI (w:Wo) (B2 B6 B7 gb gs:Nat) (O:Ops) (v:LN) (q n:Nat) (W:Wo):Prop where
 b2:W.cell? (zA B2 0)=some (zP gb)
 b6:W.heap[B6]?=some (.cells #[zS gs v.length v.length] 22 (0,0))
 row:Row W w.heap.size gs v.length (nz v)
 out:∃(u:Value)(rs:LN),W.heap[B7]?=some (.cells #[u] 22 (0,0))/\Num W B6 u rs/\(∀r∈rs,r<q/\evN O v r=0)/\rs.length<=n
 low:zB w W
def GFM(w:Wo)(B gb p m:Nat)(mod:LI)(l lg:LN):Prop:=
 gb<B/\∃(A3:OA)(c3 ge ce gl cl:Nat),w.heap[gb]?=some (Ci p m A3 mod.length c3 ((p^m:Nat):Int) ge l.length ce gl lg.length cl)/\
  IntsAt w B A3 mod/\IntsAt w B (zO ge) (nz l)/\IntsAt w B (zO gl) (nz lg)
theorem GFM.gf{w:Wo}{B gb p m:Nat}{mod:LI}{l q:LN}(h:GFM w B gb p m mod l q):GFAt w B gb p m l q:=by obtain⟨j,b,c,g,d,i,f,k,_,n,o⟩:=h;exact⟨j,b,_,c,g,d,i,f,k,n,o⟩
theorem fnew_any(p m:Int)(mod:LI)(A:OA)(c:Nat)(w:Wo)(d:zI w A mod)(b:fieldOK p m mod=true):
 zC 66 #[C4 p m A mod.length c] w fun e w'=>(∃gb,e=.returned (.tuple (Cm gb))/\w.heap.size<=gb/\
  GFM w' w'.heap.size gb p.toNat m.toNat mod (genM (mulM p.toNat m.toNat (mdOf m mod)) (p.toNat^m.toNat)) (logL (genM (mulM p.toNat m.toNat (mdOf m mod)) (p.toNat^m.toNat)) (p.toNat^m.toNat)))/\zB w w':=
 (fnew_fm p m mod A c w d b).mono fun _ _ ⟨⟨gb,he,h0,h1,A3,c3,ge,ce,gl,cl,_,_,_,_,h2,h3⟩,hb⟩=>⟨⟨gb,he,h0,h1,A3,c3,ge,ce,gl,cl,h2,h3⟩,hb⟩
theorem fnew_full(p m:Int)(mod:LI)(A:OA)(c:Nat)(w:Wo)(b:zI w A mod)(d:mod.length<=9223372036854775807):
 zC 66 #[C4 p m A mod.length c] w fun e w'=>((fieldOK p m mod=false/\e=.returned (.tuple #[.pointer none,Y 1]))\/(fieldOK p m mod=true/\∃gb,e=.returned (.tuple (Cm gb))/\w.heap.size<=gb/\GFM w' w'.heap.size gb p.toNat m.toNat mod (lOf p m mod) (logL (lOf p m mod) (p.toNat^m.toNat))))/\zB w w':=by
 cases hok:fieldOK p m mod
 . exact(fnew_no p m mod A c w b d hok).mono fun e w' ⟨h1,h2⟩=>⟨.inl ⟨rfl,h1⟩,h2⟩
 . exact(fnew_any p m mod A c w b hok).mono fun e w' ⟨h1,h2⟩=>⟨.inr ⟨rfl,h1⟩,h2⟩
def RootOk(p m:Int)(mod:LI)(n x:Int):Prop:=fieldOK p m mod=true/\∃x':Nat,x=(x':Int)/\x'<p.toNat^m.toNat/\x'≠0/\n=((ordT (logL (lOf p m mod) (p.toNat^m.toNat)) (p.toNat^m.toNat) x':Nat):Int)
structure Bx4 (w:Wo) (fs:List Value) (n x z:Int) (W:Wo):Prop where
 k2:W.heap[w.heap.size]?=some (.cells fs.toArray 24 (0,0))
 k3:W.heap[w.heap.size+1]?=some (.cells #[Y n] 3 (0,0))
 k4:W.heap[w.heap.size+1+1]?=some (.cells #[Y x] 3 (0,0))
 k5:W.heap[w.heap.size+1+1+1]?=some (.cells #[Y z] 38 (0,0))
 low:zB w W
structure RotI (w:Wo) (fs:List Value) (n:Int) (B6 gb:Nat) (w2 W:Wo):Prop where
 bx:Bx4 w fs n 0 0 W
 b6:W.heap[B6]?=some (.cells #[zP gb] 95 (0,0))
 low:zB w2 W
def pwN(O:Ops)(r:Nat):Nat->Nat
 |0=>1
 |k+1=>O.mul (pwN O r k) r
def pwL(O:Ops)(r n:Nat):LN:=(List.range n).map (pwN O r)
def imN(O:Ops)(p m1 r x:Nat):Nat:=Dv.dotO O 0 (digs p m1 x) (pwL O r m1)
end Go.Proofs.YtflejelbdlelpaaGreat
