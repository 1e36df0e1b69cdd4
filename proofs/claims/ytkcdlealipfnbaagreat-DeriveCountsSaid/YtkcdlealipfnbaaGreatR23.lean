/- Parts of the proof. -/
import Derived.Laws.EntriesVeiled
import Derived.Test.YtkcdlealipfnbaaGreatR21
import Derived.Test.YtkcdlealipfnbaaGreatR22
import Derived.Shelf.Abstract
set_option maxRecDepth 100000
set_option maxHeartbeats 8000000
namespace Go.Proofs.YtkcdlealipfnbaaGreat
open Go.RowKit Pln Go.Proofs.Tryz
section
variable {P:Program} {S:Wo->Prop} {K:Act->Wo->Prop} {o:Oper} {r:List (Nat × Oper)} {a:Act} {w:Wo}
theorem mixf_make(k:o.guard=none)(l c:Operand)(t:TypeId)(m:o.op=Op.makeSlice t l c)(base:Nat)(e:TypeId)(i:TypeInfo)(z:Value)(size:Nat)(v:P.underlying t=some (.slice e))(x:P.info? e=some i)(y:i.zero=some z)(A:i.size=size)(q p:IntKind)(n:Nat)(C:a.eval l=.int q (n:Int))(B:a.eval c=.int p (n:Int))(s:i.bytes*n<=281474976710656)(u:n<=maxLen)(b4:base<=w.heap.size)(h:∀w',w'.ownsRow base e size (zS w.heap.size n n) n (madeCells z.cells (n*size)).toList->w.grownBy w' none->S w'/\wpMixF P S K r (a.put o.dst (zS w.heap.size n n)) w'):
 wpMixF P S K ((2,o):: r) a w:=by obtain⟨w',b,g,j⟩:=run_make_full (P:=P) w base t e i z size v x y A q p n s u b4;obtain⟨d,f⟩:=h w' g j;refine qdM k ?_ d f;simp[execOp,m,C,B,b,Result.andThen]
end
def CodeFar(l bo Bc G:Nat)(W:Wo):Prop:=
 Bc≠l/\Bc≠bo/\W.rangeAt Bc 0 (Cb 2 1 3 G 1 1)/\G≠l/\G≠bo/\∃R ro cr,R≠l/\R≠bo/\W.cell? (zA G 0)=some (zL (some (zA R ro)) 3 cr)/\∀j,j<3->W.cell? (zA R (ro+j))=some (Y 1)
theorem range_lt{w:Wo}{b o:Nat}{v:Value}{cs:List Value}(h:w.rangeAt b o (v :: cs)):b<w.heap.size:=World.block_lt_of_cell? w (zA b (o+0)) (h 0 v rfl)
theorem CodeFar.rows{l bo Bc G:Nat}{W:Wo}(h:CodeFar l bo Bc G W):zR W (zO G) [[1,1,1]]:=by
 obtain⟨_,_,_,_,_,R,f,g,_,_,c,d⟩:=h;refine fun _=>⟨G,0,rfl,World.block_lt_of_cell? W _ c,fun i hi=>?_⟩;obtain rfl:i=0:=by simpa using hi
 refine⟨some (zA R f),g,c,fun _=>⟨R,f,rfl,World.block_lt_of_cell? W _ (d 0 U0),fun j hj=>?_⟩⟩;have b:j<3:=hj;rw[d j b];match j,b with
 |0,_=>rfl
 |1,_=>rfl
 |2,_=>rfl
theorem codeZ_rep:codeZ 2 1 [] 3 [[1,1,1]]=0:=U1
theorem walk1_c(l bo Bc G:Nat)(J:Nat->Wo->Prop)(w:Wo)(hJ:∀j A B,J j A->Below w.heap.size A B->J j B)(hl:l<w.heap.size)(ho:bo<w.heap.size)(hC:CodeFar l bo Bc G w)(hY:RndsOk l bo w.heap.size J)(h0:J 0 w):
 zC 167 #[.func (.yield l) #[] #[],zP Bc] w fun e w'=>(∃v,e=.returned v)/\J 2 w':=by
 have HJ:=zH hJ;have s:=zH hC;have HY:=zH hY;have f:zK (zB w (w.alloc (.cells #[.func (.yield l) #[] #[]] 188))):=zV.alloc zn _;have O:zK ((w.alloc (.cells #[.func (.yield l) #[] #[]] 188)).heap[w.heap.size]?=some (.cells #[.func (.yield l) #[] #[]] 188 (0,0))):=heap_alloc_new _ _;have x:zK (w.heap.size<(w.alloc (.cells #[.func (.yield l) #[] #[]] 188)).heap.size):=by show _ < _;simp
 clear hJ hC hY;go_enter func167,ntmps167;go_upto_region 1 with fail;generalize w.alloc (.cells #[.func (.yield l) #[] #[]] 188)=W0 at *;have i:=zH<|range_keep_v s.o.2.2.1 (f.o.block Bc (range_lt s.o.2.2.1))
 have t:zK (zC 27 #[Ck 2 1 3 G 1 1] W0 fun e w'=>e=.returned (Y (codeZ 2 1 [] 3 [[1,1,1]]))/\zB W0 w'):=(codecheck_c 2 1 [] none 0 3 [[1,1,1]] (zO G) 1 W0 (fun h=>absurd h U2) U2 ((s.o.rows.keep f.o).more f.o.size) U2);rw[codeZ_rep] at t;go_wp2_with (refine wpList_load_mid rfl 32 (.tmp 1) rfl Bc 0 rfl (Cb 2 1 3 G 1 1) _ i.o underlying32 rfl codeSize ?_);go_fit t.o;rintro e H ⟨rfl,hb1⟩;have k:=zH (f.o.trans (hb1.mono f.o.size));have P:=zH ((hb1.block w.heap.size x.o).trans O.o);have z:=zH (Nat.lt_of_lt_of_le x.o hb1.size);clear hb1 f O x t i;clear W0;have i:zK (H.rangeAt Bc 0 [Y 2,Y 1,zL none 0 0]):=fun j u hu=>by
  refine range_keep_v s.o.2.2.1 (k.o.block Bc (range_lt s.o.2.2.1)) j u ?_;match j,hu with
  |0,hu=>exact hu
  |1,hu=>exact hu
  |2,hu=>exact hu
  |j+3,hu=>simp at hu
 have HN:zK (zC 72 #[.agg #[Y 2,Y 1,zL none 0 0]] H fun e w'=>(∃gb,e=.returned (.tuple (Cq gb))/\GFUp w' H.heap.size gb 2 1 lT (logL lT (2^1)))/\zB H w'):=(fnew_up 2 1 [] none 0 H (fun h=>absurd h U2) U1);go_wp2_with (refine wpList_load_mid rfl 29 (.tmp 11) rfl Bc 0 rfl [Y 2,Y 1,zL none 0 0] _ i.o underlying29 rfl fieldSize ?_);go_fit HN.o;rintro e b ⟨⟨gb,rfl,hg⟩,hb2⟩;have HG:=zH hg;have r:=zH (k.o.trans (hb2.mono k.o.size));have Q:=zH ((hb2.block w.heap.size z.o).trans P.o);have ao:=zH (Nat.lt_of_lt_of_le z.o hb2.size);have L:=zH hb2.size;clear hb2 hg k P HN i;go_upto_region 5 with fail;have T:zK ((((b.alloc (.cells #[zP gb] 100)).alloc (.cells #[Y 0] 3)).alloc (.cells #[.nilFunc] 188)).heap[b.heap.size]?=some (.cells #[zP gb] 100 (0,0))):=(Below.heap_alloc _ _ _ so).trans ((Below.heap_alloc _ _ _ U2).trans (heap_alloc_new _ _));have U:zK ((((b.alloc (.cells #[zP gb] 100)).alloc (.cells #[Y 0] 3)).alloc (.cells #[.nilFunc] 188)).heap[b.heap.size+1]?=some (.cells #[zN 0] 3 (0,0))):=(Below.heap_alloc _ _ _ U2).trans (alloc_at U2 _);have m:zK ((((b.alloc (.cells #[zP gb] 100)).alloc (.cells #[Y 0] 3)).alloc (.cells #[.nilFunc] 188)).heap[b.heap.size+1+1]?=some (.cells [.nilFunc].toArray 188 (0,0))):=alloc_at U2 _;have I:zK (zB b (((b.alloc (.cells #[zP gb] 100)).alloc (.cells #[Y 0] 3)).alloc (.cells #[.nilFunc] 188))):=((zV.alloc zn _).alloc U2 _).alloc so _;generalize ((b.alloc (.cells #[zP gb] 100)).alloc (.cells #[Y 0] 3)).alloc (.cells #[.nilFunc] 188)=V at *;have y2:V.cell? (zA (b.heap.size+1+1) 0)=some .nilFunc:=cell_of_row _ _ 0 _ _ _ m.o;have f2:V.frozen? (zA (b.heap.size+1+1) 0)=false:=by simp[World.frozen?,m.o]
 go_upto_region 6 with fail;have c:zK (zB b (V.setCell (zA (b.heap.size+1+1) 0) (.func (.func 168) #[] (C5 Bc (b.heap.size+1) w.heap.size b.heap.size (b.heap.size+1+1))))):=I.o.setCell (p:=(zA (b.heap.size+1+1) 0)) (by show b.heap.size<=b.heap.size+1+1;omega) _;have Z:zK ((V.setCell (zA (b.heap.size+1+1) 0) (.func (.func 168) #[] (C5 Bc (b.heap.size+1) w.heap.size b.heap.size (b.heap.size+1+1)))).heap[b.heap.size]?=some (.cells #[zP gb] 100 (0,0))):=(Below.heap_setCell V (zA (b.heap.size+1+1) 0) _ b.heap.size (by show b.heap.size≠b.heap.size+1+1;omega)).trans T.o;have aa:zK ((V.setCell (zA (b.heap.size+1+1) 0) (.func (.func 168) #[] (C5 Bc (b.heap.size+1) w.heap.size b.heap.size (b.heap.size+1+1)))).heap[b.heap.size+1]?=some (.cells #[zN 0] 3 (0,0))):=(Below.heap_setCell V (zA (b.heap.size+1+1) 0) _ (b.heap.size+1) (by show b.heap.size+1≠b.heap.size+1+1;omega)).trans U.o;have ab:zK ((V.setCell (zA (b.heap.size+1+1) 0) (.func (.func 168) #[] (C5 Bc (b.heap.size+1) w.heap.size b.heap.size (b.heap.size+1+1)))).heap[b.heap.size+1+1]?=some (.cells [(.func (.func 168) #[] (C5 Bc (b.heap.size+1) w.heap.size b.heap.size (b.heap.size+1+1)))].toArray 188 (0,0))):=heap_set_same m.o 0 _;generalize V.setCell (zA (b.heap.size+1+1) 0) (.func (.func 168) #[] (C5 Bc (b.heap.size+1) w.heap.size b.heap.size (b.heap.size+1+1)))=X at *;clear y2 f2 T U m I;have av:=z.o;have aq:=ao.o;have ar:=L.o;have g:=zH<|r.o.trans (c.o.mono r.o.size)
 have n:zK (WkS l bo (b.heap.size+1) Bc w.heap.size b.heap.size (b.heap.size+1+1) gb G (C5 Bc (b.heap.size+1) w.heap.size b.heap.size (b.heap.size+1+1)) 0 X):=by obtain⟨n1,n2,ae,n3,n4,R,ro,cr,n5,n6,ac,ad⟩:=s.o;have l1:=range_lt ae;have l2:=World.block_lt_of_cell? w _ ac;have l3:=World.block_lt_of_cell? w _ (ad 0 U0);simp only at l2 l3;refine⟨⟨n1,n2,U0⟩,range_keep_v ae (g.o.block Bc l1),⟨⟨n3,n4,U0⟩,R,ro,cr,⟨n5,n6,U0⟩,(g.o.cell (p:=(zA G 0)) l2).trans ac,fun j hj=>(g.o.cell (p:=(zA R (ro+j))) l3).trans (ad j hj)⟩,aa.o,⟨⟨U0,U0,U0⟩,cell_of_row _ _ 0 _ _ _ ((c.o.block w.heap.size aq).trans Q.o)⟩,⟨⟨U0,U0,U0⟩,cell_of_row _ _ 0 _ _ _ Z.o⟩,⟨⟨U0,U0,U0⟩,cell_of_row _ _ 0 _ _ _ ab.o⟩,?_⟩;obtain⟨b0,b1,A3,n3,c3,ge,ce,gl,cl,b2,b3,b4,b5,h1,h2,h3⟩:=HG.o;exact⟨⟨U0,U0,U0⟩,Nat.lt_of_lt_of_le b1 c.o.size,A3,n3,c3,ge,ce,gl,cl,⟨U0,U0,U0⟩,⟨U0,U0,U0⟩,(c.o.block gb b1).trans h1,(h2.keep c.o).more c.o.size,(h3.keep c.o).more c.o.size⟩
 have M:=zH (HJ.o 0 w X h0 g.o);clear Z aa ab c r Q HG s;obtain⟨i0,ag,ah,ai,aj⟩:=qaF infoInt
 have ak:=zH <|
  fun bw cw W hf hs hj ha=>from0_c l bo (b.heap.size+1) Bc w.heap.size b.heap.size (b.heap.size+1+1) gb G w.heap.size J HJ.o U0 hl ho HY.o bw cw hf W hs hj ha
 have C:=zH<|n.o.same SameBut.drew n.o.cnt
 have N:=zH (HJ.o 0 X X.drew M.o (Below.refl _ X).drew);have ap:w.heap.size<=X.drew.heap.size:=g.o.size;have au:b.heap.size+1<X.drew.heap.size:=n.o.lt;clear M n g;refine qaS 4 4 (WkS l bo (b.heap.size+1) Bc w.heap.size b.heap.size (b.heap.size+1+1) gb G (C5 Bc (b.heap.size+1) w.heap.size b.heap.size (b.heap.size+1+1)) 0) [(0,0),(1,1),(0,2),(2,3)] default U1 U1 (fun _ _ d _ _ h=>by cases d<;>exact h) C.o ?_;generalize X.drew=Xd at *;simp only[List.map_cons,List.map_nil,List.getD_cons_zero,List.getD_cons_succ];apply qbF rfl
 . intro V hV;have y:=hV.frm.2;go_simp;rfl
 go_simp;apply qaM rfl
 . intro V;go_simp;rfl
 go_simp;apply qbF rfl
 . intro V hV;have y:V.cell? (zA Bc 3)=some (Y 3):=hV.code 3 _ rfl;go_simp;rfl
 go_simp;refine mixf_make rfl (.tmp 19) (.tmp 19) 23 rfl Xd.heap.size 3 i0 (Y 0) 1 underlying23 ag ah ai .i64 .i64 3 rfl rfl (by rw[aj];omega) ml zn ?_;intro w3 q af;have D:=qaL af;have E:=Row.of_make q;have S:=zH (C.o.grow D);have al:=zH (HJ.o 0 Xd w3 N.o (D.mono ap));refine⟨S.o,?_⟩;go_simp;refine qbH ?_;show wpList _ _ _ _ _ _;have K:=zH (ak.o Xd.heap.size 3 w3 ⟨U0,U0,U0⟩ S.o al.o (E.ints E.lt.2));clear q af D E C N ag ah ai aj;go_wp2_with fail;refine K.o.mono ?_;rintro e w4 ⟨rfl,_,hj4,_⟩;have an:=zH hj4;clear hj4 K;go_wp2_with fail;go_end0;exact⟨⟨_,rfl⟩,an.o⟩
theorem eweight_c(v:LN)(A:OA)(c:Nat)(w:Wo)(t:zI w A (nz v))(u:v.length<=1000):
 zC 117 #[zL A v.length c] w fun e w'=>e=.returned (Y ((Dv.wt v:Nat):Int))/\w=w':=by
 have i:=zH t;clear t;go_enter func117,ntmps117;go_wp2;go_loopw [3,8] (fun v3 v8 wr=>RelWg v w v3 v8 wr) (fun _ v8 _=>v.length-(intOf v8).toNat);case atStart=>exact⟨0,U0,rfl,rfl,rfl⟩
 case round =>
  obtain⟨k,q,rfl,rfl,rfl⟩:=hrel;have m:Dv.wt (v.take k)<=1000:=Nat.le_trans (rwt_le _) (by rw[List.length_take];omega);by_cases f:k<v.length
  . obtain ⟨b,o,rfl,p,h⟩ := i.o.at_ (k := k) (by rw [qaA];exact f);rw [qaC] at h;have d:=zH (rwt_take f);have r:(0:Int)<=(k:Int):=U0;have s:(k:Int)<(v.length:Int):=U0;have j:IntKind.i64.wrap ((k:Int)+1)=(k:Int)+1:=IntWalk.i64_in _ U0;have l:IntKind.i64.wrap (((Dv.wt (v.take k):Nat):Int)+1)=((Dv.wt (v.take k):Nat):Int)+1:=IntWalk.i64_in _ U0;by_cases g:v.getD k 0=0
    . rw[if_pos g] at d;rw[g] at h;clear g;go_wp2;go_roundw;case rel=>exact⟨k+1,U0,U3,by rw[d.o];rfl,rfl⟩
      case measure=>simp[intOf];omega
    . rw[if_neg g] at d;(have n:(((v.getD k 0:Nat):Int) != 0)=true:=by simpa using g);generalize v.getD k 0=x at *;go_wp2;go_roundw;case rel=>exact⟨k+1,U0,U3,by rw[d.o];go_num,rfl⟩
      case measure=>simp[intOf];omega
  . (obtain rfl:k=v.length:=by omega);rw[List.take_length];go_wp2;go_ret;exact⟨rfl,rfl⟩
def RelE2(v1 v8:Value):Prop:=v1=Y 1/\v8=Y 1\/v1=Y 0/\v8=Y 2
theorem exp_2(w:Wo):zC 166 #[Y 2,Y 1,Y 65536] w fun e w'=>e=.returned (.tuple #[Y 2,Y 0])/\w=w':=by
 go_enter func166,ntmps166;go_wp2;go_loop [1,8] (fun v1 v8=>RelE2 v1 v8) (fun v1 _=>(intOf v1).toNat);case atStart=>exact .inl ⟨rfl,rfl⟩
 case round =>
  rcases hrel with⟨rfl,rfl⟩|⟨rfl,rfl⟩
  . go_wp2;go_round;case rel=>exact .inr ⟨rfl,rfl⟩
    case measure=>simp[intOf]
  . go_wp2;go_ret2;exact⟨rfl,rfl⟩
theorem esize_c(G:Nat)(w:Wo)(z:zR w (zO G) [[1,1,1]]):
 zC 115 #[Ck 2 1 3 G 1 1] w fun e w'=>e=.returned (.tuple #[Y 2,Y 0])/\zB w w':=by
 have p:=zH (bx_new w (Cb 2 1 3 G 1 1) 32);have t:=zH z;clear z;go_enter func115,ntmps115;go_upto_region 1 with fail;generalize w.alloc (.cells #[Y 2,Y 1,zL none 0 0,Y 3,zS G 1 1] 32)=i at *;have b:=zH p.o.field;have r:zK (zC 72 #[.agg #[Y 2,Y 1,zL none 0 0]] i fun e w'=>(∃gb,e=.returned (.tuple (Cq gb))/\GFUp w' i.heap.size gb 2 1 lT (logL lT (2^1)))/\zB i w'):=(fnew_up 2 1 [] none 0 i (fun h=>absurd h U2) U1);go_wp2_with (refine wpList_load_mid rfl 29 (.tmp 8) rfl w.heap.size 0 rfl [Y 2,Y 1,zL none 0 0] _ b.o underlying29 rfl fieldSize ?_);go_fit r.o;rintro e m ⟨⟨gb,rfl,hg⟩,hb1⟩;have c:=zH (p.o.grow hb1);have k:=zH hg.at_;have q:=hg.2.1;clear hb1 hg r p b;clear i;have b:=zH c.o.range;have g:zK (zC 27 #[Ck 2 1 3 G 1 1] m fun e w'=>e=.returned (Y (codeZ 2 1 [] 3 [[1,1,1]]))/\zB m w'):=(codecheck_c 2 1 [] none 0 3 [[1,1,1]] (zO G) 1 m (fun h=>absurd h U2) U2 ((t.o.keep c.o.below).more c.o.below.size) U2);rw[codeZ_rep] at g;go_upto_region 2 with fail;go_wp2_with (refine wpList_load_mid rfl 32 (.tmp 1) rfl w.heap.size 0 rfl (Cb 2 1 3 G 1 1) _ b.o underlying32 rfl codeSize ?_);go_fit g.o;rintro e n ⟨rfl,hb2⟩;have l:=zH (c.o.grow hb2);have j:=zH ((k.o.keep hb2).more hb2.size);clear hb2 g c k b;clear q;clear m;go_upto_region 7 with fail;have f:=zH<|l.o.grow zV.drew
 have s:=zH (gorder_e gb n.drew.heap.size 2 1 lT (logL lT (2^1)) n.drew (j.o.keep (Below.refl _ n).drew));refine qaS 8 8 (BX w (Cb 2 1 3 G 1 1) 32) [(1,0),(1,2),(0,3),(1,4),(2,1),(2,5),(1,6),(1,7)] default U1 U1 (fun _ _ d _ _ h=>by cases d<;>exact h) f.o ?_;clear l j;generalize n.drew=u at *;simp only[List.map_cons,List.map_nil,List.getD_cons_zero,List.getD_cons_succ]
 iterate 2
  apply qaM rfl
  . intro V
    go_simp
    rfl
  go_simp
 apply qbF rfl
 . intro V v;have y:V.cell? (zA w.heap.size 4)=some (zS G 1 1):=v.cell rfl;go_simp;rfl
 go_simp;apply qaM rfl
 . intro V;go_simp;rfl
 go_simp;apply qbE rfl
 . go_simp;exact⟨rfl,rfl⟩
 with_reducible refine s.o.mono ?_
 rintro e x ⟨rfl,rfl⟩;refine⟨_,rfl,f.o,?_⟩;go_simp;apply qbE rfl
 . go_simp;exact⟨rfl,rfl⟩
 with_reducible refine(exp_2 u).mono ?_
 rintro e x ⟨rfl,rfl⟩;refine⟨_,rfl,f.o,?_⟩;go_simp
 iterate 2
  apply qaM rfl
  . intro V
    go_simp
    rfl
  go_simp
 refine qbH ?_;show wpList _ _ _ _ _ _;clear s;go_wp2;go_ret2;exact⟨rfl,f.o.below⟩
theorem ewalk_c(cs:List Value)(w:Wo):
 zC 116 #[.agg cs.toArray] w fun e w'=>e=.returned (.func (.func 167) #[] #[zP w.heap.size])/\w'=w.alloc (.cells cs.toArray 32):=by go_enter func116,ntmps116;go_wp2;go_ret;exact⟨rfl,rfl⟩
def cnts:Nat->LN
 |0=>[0,0,0,0]
 |1=>[1,0,0,0]
 |_=>[1,0,0,1]
theorem cnts_len:∀k,k<=2->(cnts k).length=4
 |0,_=>rfl
 |1,_=>rfl
 |2,_=>rfl
theorem cnts_step{k:Nat}(b:k<2):Dv.wt (List.replicate 3 k)<4/\(cnts k).getD (Dv.wt (List.replicate 3 k)) 0=0/\(cnts k).set (Dv.wt (List.replicate 3 k)) 1=cnts (k+1):=by
 match k,b with
 |0,_=>exact⟨dc,rfl,rfl⟩
 |1,_=>exact⟨dc,rfl,rfl⟩
theorem below_putObj{B l:Nat}{a W:Wo}(h:Below B a W)(b:B<=l)(o:Obj):Below B a (W.putObj l o):=
 ⟨h.os,h.tape,h.output,by simpa using h.size,fun k hk=>(World.putObj_heap_other U0).trans (h.block k hk)⟩
structure WtI (w:Wo) (Bo bo k:Nat) (W:Wo):Prop where
 box:W.cell? (zA Bo 0)=some (zS bo 4 4)
 row:Row W w.heap.size bo 4 (nz (cnts k))
 low:zB w W
theorem WtI.keep{w:Wo}{b bo k B:Nat}{W d:Wo}(h:WtI w b bo k W)(c:Below B W d)(f:b<B)(g:bo<B)(i:w.heap.size<=B):WtI w b bo k d:=
 ⟨(c.cell (p:=(zA b 0)) f).trans h.box,h.row.below c g,h.low.trans (c.mono i)⟩
def RdPost(I:Nat->Wo->Prop)(bo k:Nat)(W2:Wo)(e:Exit)(_:Act)(W3:Wo):Prop:=e=.normal/\I (k+1) W3/\W2.heap.size<=W3.heap.size/\∀b,b<W2.heap.size->b≠bo->W3.heap[b]?=W2.heap[b]?
theorem range_two(w4:Wo){g:Operand}{ps:Array Tmp}{assign body:Code}{Q:Exit->Act->Wo->Prop}{a:Act}{lb:Array Value}(hg:a.eval g=.func (.func 167) #[] lb)(ae:ps.size=2)(I:Nat->Wo->Prop)(bo:Nat)(af:bo<w4.heap.size)(hI:∀ k A B,I k A->Below w4.heap.size A B->I k B)(h0:I 0 w4)(ad:∀ (l:Nat)(J:Nat->Wo->Prop)(W:Wo),zB w4 W->l<W.heap.size->w4.heap.size<=l->(∀ j A B,J j A->Below W.heap.size A B->J j B)->RndsOk l bo W.heap.size J->J 0 W->zC 167 (#[.func (.yield l) #[] #[]]++lb) W fun e w'=>(∃ v,e=.returned v)/\J 2 w')(a₁:Nat->Nat->Nat->Act)(aa:∀ (l k g c:Nat)(W:Wo)(K:Act->Wo->Prop),K (a₁ k g c) W->assign.wpIn (Fence.wide.inRound l) 0 prog (Exit.then K (fun _ _ _=>False)) { tmps:=(ps.zip (Cp k g 3 c)).foldl (fun t (p,v)=>t.setIfInBounds p v) a.tmps,defers:=[] } W)(ab:∀ (l k g c:Nat)(W2:Wo),k<2->I k W2->Row W2 w4.heap.size g c (nz (List.replicate 3 k))->body.wpIn (Fence.wide.inRound l) 0 prog (RdPost I bo k W2) (a₁ k g c) W2)(ac:∀ (D:Nat)(W:Wo),I 2 W->w4.heap.size<=D->W.heap[D]?=some (.deferred (some []))->Q .normal { a with defers:={ target:=.collected D,args:=#[] } :: a.defers } W):
 (Code.rangeFunc g ps assign body).wpIn Fence.wide 0 prog Q a w4:=by
 refine wpIn_rangeFunc ?_;intro fn M;obtain⟨f,d⟩:∃f:LoopState->Option Code->Loop,f=fun st pe=>{ state:=st,pending:=pe,fn,tmps:=a.tmps,params:=ps,assign,body,defers:=w4.heap.size }:=⟨_,rfl⟩;obtain⟨i,m⟩:∃i,(w4.alloc (.deferred (some []))).alloc (.loop (f .ready none))=i:=⟨_,rfl⟩;have E:i.heap[w4.heap.size+1]?=some (.loop (f .ready none)):=by rw[<- m];have:=World.alloc_heap_new (w4.alloc (.deferred (some []))) (.loop (f .ready none));rwa [World.size_alloc] at this
 have C:i.heap[w4.heap.size]?=some (.deferred (some [])):=by rw[<- m];exact(Below.heap_alloc _ _ _ U2).trans (World.alloc_heap_new w4 _)
 have n:zB w4 i:=by rw[<- m];exact((Below.refl _ w4).alloc zn _).alloc U2 _
 have V:i.heap.size=w4.heap.size+2:=by rw[<- m];simp
 have R:Enters prog 167:=enters_of func167 U1 rfl
 refine⟨w4.heap.size+1,[{ target:=.collected w4.heap.size,args:=#[] }],i,{ target:=.fn (.func 167) lb,args:=#[.func (.yield (w4.heap.size+1)) #[] #[]] },i,167,
  #[.func (.yield (w4.heap.size+1)) #[] #[]]++lb,i,?_,?_,fun _ _=>trivial,?_,fun h=>(by cases h),?_⟩
 . rw[<- m,d];exact run_enterLoop_outer _ _ _ _ _
 . simp only[resolve,hg];simp[go_sem]
 . simp[invoke,go_sem,R _ _]
 . refine callsIn_wide.2 ((ad (w4.heap.size + 1) (fun k W => I k W /\ W.heap[w4.heap.size + 1]? = some (.loop (f .ready none)) /\ W.heap[w4.heap.size]? = some (.deferred (some []))) i n U0 U0
    (fun j A B ⟨z,h2,h3⟩ s=>⟨hI j A B z (s.mono U0),(s.block _ U0).trans h2,(s.block _ U0).trans h3⟩) ?_ ⟨hI 0 w4 i h0 n,E,C⟩).mono ?_)
   . rintro k r c W T ⟨hi,hl,hd⟩ hsz hrow;have y:=(Array.getElem?_eq_some_iff.1 hl).1;have O:=run_yield (P:=prog) (args:=(Cp k r 3 c)) hl (by rw [d];exact ae.symm);rw [d] at O;refine ⟨fn,_,assign,body,O,roundIn_of_wpIn M (aa (w4.heap.size+1) k r c W _ ?_)⟩;clear O
     . have s:=ab (w4.heap.size + 1) k r c;refine⟨_,run_beginRound hl (by rw[d]),?_⟩;have N:(W.putObj (w4.heap.size+1) (.loop { f .ready none with state:=.busy })).heap[w4.heap.size+1]?=some (.loop { f .ready none with state:=.busy }):=World.putObj_heap_same y;have L:Below (w4.heap.size+1) W (W.putObj (w4.heap.size+1) (.loop { f .ready none with state:=.busy })):=below_putObj zV zn _;have S:=hrow.lt;(have q:Row (W.putObj (w4.heap.size+1) (.loop { f .ready none with state:=.busy })) w4.heap.size r c (nz (List.replicate 3 k)):=by have z:Row W w4.heap.size r c (nz (List.replicate 3 k)):=hrow.base U0;exact World.ownsRow.kept z (row:=some (w4.heap.size+1)) ⟨rfl,rfl,rfl,U2,fun b _ hne=>World.putObj_heap_other (fun e=>hne (congrArg some e))⟩ (.inr (fun e=>by simp[Value.ownBlock] at e;omega)));refine Code.wpIn_mono ?_ (s _ T (hI k _ _ hi (L.mono U0)) q);rintro e Z X ⟨rfl,hi3,hs3,hsm⟩;have x:=(hsm _ (by simpa using y) U0).trans N;refine⟨_,_,run_endRound none x,rfl,⟨hI _ _ _ hi3 (below_putObj zV U0 _),?_,?_⟩,?_,?_⟩
       . refine(World.putObj_heap_same (Array.getElem?_eq_some_iff.1 x).1).trans ?_;rw[d];rfl
       . refine(World.putObj_heap_other U0).trans ((hsm _ so U0).trans ((World.putObj_heap_other U0).trans hd))
       . simpa using hs3
       . intro b n u H;exact(World.putObj_heap_other u).trans ((hsm b (by simpa using n) H).trans (World.putObj_heap_other u))
   . rintro e W2 ⟨⟨v,rfl⟩,hi,hl,hd⟩;have o:=run_endLoop (P:=prog) hl (by rw[d];simp);(have U:(f .ready none).pending=none:=by rw[d]);rw[U] at o;exact⟨none,_,o,ac w4.heap.size _ (hI _ _ _ hi (below_putObj (l:=w4.heap.size+1) zV U0 _)) zn ((World.putObj_heap_other U0).trans hd)⟩
def WtS(w:Wo)(Bo bo g k:Nat)(V:Wo):Prop:=V.cell? (zA Bo 0)=some (zS bo 4 4)/\Row V w.heap.size bo 4 (nz (cnts k))/\zI V (zO g) (nz (List.replicate 3 k))
def WtsPost(w:Wo)(e:Ending)(w':Wo):Prop:=∃g:Nat,e=.returned (.tuple #[zS g 4 4,Y 0])/\zI w' (zO g) (nz [1,0,0,1])/\zB w w'
theorem eweights_c(G R ro cr:Nat)(w:Wo)(bc:w.cell? (zA G 0)=some (zL (some (zA R ro)) 3 cr))(bd:∀ j,j<3->w.cell? (zA R (ro+j))=some (Y 1)):
 zC 54 #[Ck 2 1 3 G 1 1] w (WtsPost w):=by
 have HG:zK (zR w (zO G) [[1,1,1]]):=by
  refine fun _=>⟨G,0,rfl,World.block_lt_of_cell? w _ bc,fun i N=>?_⟩;obtain rfl:i=0:=by simpa using N
  refine⟨some (zA R ro),cr,bc,fun _=>⟨R,ro,rfl,World.block_lt_of_cell? w _ (bd 0 U0),fun j hj=>?_⟩⟩;have an:j<3:=hj;rw[bd j an];match j,an with
  |0,_=>rfl
  |1,_=>rfl
  |2,_=>rfl
 have u:=zH bc;have v:=zH bd;have HX:=zH (bx_new w (Cb 2 1 3 G 1 1) 32);obtain⟨i0,al,au,av,aw⟩:=qaF infoInt;have HI:=zH al;have ag:=zH au;have ah:=zH av;have ad:=zH (show i0.bytes*4<=281474976710656 by rw[aw];omega);clear bc bd al au av aw;refine(callsIn_wide (n:=0)).1 (callsIn_of_wp_marks func54 rfl trivial (wpIn_wide.2 ?_));simp only[ntmps54,List.size_toArray,List.length_cons,List.length_nil,Nat.reduceAdd,Nat.reduceSub,Array.replicate_succ,Array.replicate_zero,List.push_toArray,List.append_toArray,List.nil_append,List.cons_append];go_upto_region 1 with fail;generalize w.alloc (.cells #[Y 2,Y 1,zL none 0 0,Y 3,zS G 1 1] 32)=W0 at *;have x:=zH HX.o.range;have HC:=zH (esize_c G W0 ((HG.o.keep HX.o.below).more HX.o.below.size));go_wp2_with (refine wpList_load_mid rfl 32 (.tmp 1) rfl w.heap.size 0 rfl (Cb 2 1 3 G 1 1) _ x.o underlying32 rfl codeSize ?_);go_fit HC.o;rintro e I ⟨rfl,hb1⟩;have E:=zH (HX.o.grow hb1);clear hb1 HC HX x;clear W0;have c3:I.cell? (zA w.heap.size 3)=some (Y 3):=E.o.cell rfl;have aq:=E.o.below.size;go_upto_region 5 with(refine wpList_make_full I rfl (.tmp 19) (.tmp 19) 23 rfl w.heap.size 3 i0 (Y 0) 1 underlying23 HI.o ag.o ah.o .i64 .i64 4 4 4 rfl rfl rfl rfl ad.o ml aq ?_;intro L aa ak);have aj:=qaL ak;have X:=Row.of_make aa;have ab:zK (BX w (Cb 2 1 3 G 1 1) 32 (L.alloc (.cells #[zS I.heap.size 4 4] 23))):=(E.o.grow aj).grow (zV.alloc zn _);have m:zK (Row (L.alloc (.cells #[zS I.heap.size 4 4] 23)) w.heap.size I.heap.size 4 (nz (cnts 0))):=X.below ((Below.refl L.heap.size L).alloc zn _) X.lt.2;have af:zK ((L.alloc (.cells #[zS I.heap.size 4 4] 23)).cell? (zA L.heap.size 0)=some (zS I.heap.size 4 4)):=cell_of_row _ _ 0 _ _ _ (heap_alloc_new _ _);have ba:=X.lt.2;have a5:L.heap.size<(L.alloc (.cells #[zS I.heap.size 4 4] 23)).heap.size:=U2;have a9:=E.o.2.2;generalize L.alloc (.cells #[zS I.heap.size 4 4] 23)=Z at *;clear aa ak aj X E c3 HI ag ah ad aq;generalize I.heap.size=d at *;generalize L.heap.size=s at *;clear I L;have x:=zH ab.o.range;have HW:=zH (ewalk_c (Cb 2 1 3 G 1 1) Z);go_wp2_with (refine wpList_load_mid rfl 32 (.tmp 1) rfl w.heap.size 0 rfl (Cb 2 1 3 G 1 1) _ x.o underlying32 rfl codeSize ?_);go_fit HW.o;rintro e M ⟨rfl,HW4⟩;have a6:=zH HW4;have a7:M.heap.size=Z.heap.size+1:=by rw[HW4];simp
 have r:zK (BX w (Cb 2 1 3 G 1 1) 32 M):=by rw[HW4];exact ab.o.grow (zV.alloc zn _)
 have U:zK (Row M w.heap.size d 4 (nz (cnts 0))):=by rw[HW4];exact m.o.below ((Below.refl Z.heap.size Z).alloc zn _) m.o.lt.2
 have O:zK (M.cell? (zA s 0)=some (zS d 4 4)):=by rw[HW4];exact(((Below.refl Z.heap.size Z).alloc zn _).cell (p:=(zA s 0)) a5).trans af.o
 have T:zK (M.rangeAt Z.heap.size 0 (Cb 2 1 3 G 1 1)):=by rw[HW4];exact range_of_row (heap_alloc_new _ _)
 clear HW4 a6 HW x ab m af;generalize Z.heap.size=Bc at *;clear Z;go_upto_region 9 with fail;have a3:Bc<M.heap.size:=U0;have Q:zK (WtI w s d 0 M):=⟨O.o,U.o,r.o.below⟩;have P:zK (∀(l:Nat)(W:Wo),zB M W->M.heap.size<=l->CodeFar l d Bc G W):=fun l W hb hl=>by have l2:=World.block_lt_of_cell? w _ u.o;have l3:=World.block_lt_of_cell? w _ (v.o 0 U0);simp only at l2 l3;have hw:=r.o.below;have ai:=hw.trans (hb.mono hw.size);have bb:=hw.size;exact⟨U0,U0,range_keep_v T.o (hb.block Bc a3),U0,U0,R,ro,cr,U0,U0,(ai.cell (p:=(zA G 0)) l2).trans u.o,fun j hj=>(ai.cell (p:=(zA R (ro+j))) l3).trans (v.o j hj)⟩
 refine(wpIn_wide (n:=0)).1 (range_two M rfl rfl (WtI w s d) d U0 (fun k A B h hb=>h.keep hb U0 U0 U0) Q.o (fun l J W hb hl1 hl2 hJ hY h0=>walk1_c l d Bc G J W hJ hl1 (by have:=hb.size;omega) (P.o l W hb hl2) hY h0) (fun k g c=>{ tmps:=#[Ck 2 1 3 G 1 1,zP w.heap.size,zL none 0 0,Y 0,Y 2,Y 0,zP s,undef,zS g 3 c,.tuple #[Y 2,Y 0],Ck 2 1 3 G 1 1,.tuple #[Y 2,Y 0],Y 2,Y 0,Y 0,.bool false,undef,.pointer (some (zA w.heap.size 3)),Y 3,Y 4,zS d 4 4,Ck 2 1 3 G 1 1,.func (.func 167) #[] #[zP Bc],Y (k:Int),zS g 3 c,undef,undef,undef,undef,undef,undef,undef,undef],defers:=[] }) ?_ ?_ ?_)
 . intro l k g c W K hK;have ar:=fun ρ o h=>Oper.semAt_some l ρ o h;clear HG u v r U O T P Q;gi_wp2;exact hK
 . intro l k g c H hk N q;have ac:=cnts_step hk;(have a0:=zH<|fun V hV=>by have:=eweight_c (List.replicate 3 k) (zO g) c V hV U2;rw [List.length_replicate] at this;exact this);generalize Dv.wt (List.replicate 3 k)=t at *;have C:=zH ac;have t0:(0:Int)<=(t:Int):=U0;(have t1:(t:Int)<4:=by have:=ac.1;omega);clear ac HG u v r U O T P Q;have ao:k<=2:=U0;clear hk;have S:=zH N;have z:zK (WtS w s d g k H.drew):=⟨N.box,N.row.below (Below.refl _ H).drew N.row.lt.2,(q.below (Below.refl _ H).drew q.lt.2).ints q.lt.2⟩;clear N q;gi_step;refine qdK 7 7 (WtS w s d g k) [(0,0),(1,1),(2,2),(1,3),(0,4),(1,5),(1,6)] default (noBar_wide.inRound l) U1 U1 U1 z.o ?_;simp only [List.map_cons,List.map_nil,List.getD_cons_zero,List.getD_cons_succ];apply qbF rfl
   . intro V hV;have y:=hV.1;go_simp;rfl
   go_simp;apply qaM rfl
   . intro V;go_simp;rfl
   go_simp;apply qbE rfl
   . go_simp;exact⟨rfl,rfl⟩
   have a1:=zH (a0.o H.drew z.o.2.2);go_fit a1.o;rintro e w' ⟨rfl,rfl⟩;refine⟨_,rfl,z.o,?_⟩;go_simp;apply qaM rfl
   . intro V;go_simp;rfl
   go_simp;apply qbF rfl
   . intro V hV;(have y:V.cell? (zA d t)=some (Y 0):=by have:=hV.2.1.cell (j:=t) (by rw[qaA,cnts_len k ao];exact C.o.1);rw[qaC,C.o.2.1] at this;exact this);go_simp;rfl
   go_simp
   iterate 2
    apply qaM rfl
    . intro V
      go_simp
      rfl
    go_simp
   refine qbH ?_;show wpListIn _ _ _ _ _ _ _ _;(have m:=zH<|z.o.2.1);(have ax:=zH<|S.o.low.drew);(have y:H.drew.cell? (zA d t)=some (Y 0):=by have:=m.o.cell (j:=t) (by rw[qaA,cnts_len k ao];exact C.o.1);rw[qaC,C.o.2.1] at this;exact this);have f:=m.o.frozen t;(have ae:zK (H.drew.cell? (zA s 0)=some (zS d 4 4)):=by obtain⟨h1,_,_⟩:=z.o;exact h1);have az:zK (∀b,b≠d->(H.drew.setCell (zA d t) (Y 1)).heap[b]?=H.heap[b]?):=fun b hb=>Below.heap_setCell H.drew (zA d t) _ b hb;(have ay:zK (WtI w s d (k+1) (H.drew.setCell (zA d t) (Y 1))):=by refine⟨(World.cell?_of_block (a:=(zA s 0)) (Below.heap_setCell H.drew (zA d t) _ s (by show s≠d;omega))).trans ae.o,?_,ax.o.setCell (p:=(zA d t)) (by show w.heap.size<=d;omega) _⟩;rw[<- C.o.2.2,<- qbC];exact m.o.set t 1);have ar:=fun ρ o h=>Oper.semAt_some l ρ o h;(repeat(first|go_values|gi_guarded|gi_step|gi_upon));exact⟨rfl,ay.o,U2,fun b _ hb=>az.o b hb⟩
 . intro D W N hD hd;have y:=N.box;have S:=zH N;(have a2:=zH<|r.o.2.2);clear HG u v r U O T P Q;go_wp2_with fail;refine⟨U2,.inl ⟨_,_,rfl,run_takeDeferred hd,?_⟩⟩;have a4:=below_putObj (Below.refl D W) (Nat.le_refl D) (.deferred none);have a8:=a2.o;have ap:=S.o.row.below a4 U0;exact⟨_,results_tmp2 rfl _ _ _,d,rfl,ap.ints ap.lt.2,below_putObj S.o.low U0 _⟩
end Go.Proofs.YtkcdlealipfnbaaGreat
