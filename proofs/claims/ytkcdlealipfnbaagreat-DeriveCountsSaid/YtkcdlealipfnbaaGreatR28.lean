/- Parts of the proof. -/
import Derived.Test.YtkcdlealipfnbaaGreatR25
import Derived.RangeFuncCalls
import Derived.RangeFuncBox
import Derived.OwnWalkIn
import Derived.TacticsInMore
import Derived.RangeFuncBound
import Derived.LoopNIn
import Derived.LoopIn
import Derived.Test.YtkcdlealipfnbaaGreatR27
set_option maxRecDepth 100000
set_option maxHeartbeats 8000000
namespace Go.Proofs.YtkcdlealipfnbaaGreat
open Go.RowKit Pln Go.Proofs.Tryz
theorem app_int{W:Wo}{B:Nat}{v:Value}{l:LN}(x p:Nat)(h:Num W B v l)(q:B<=W.heap.size)(s:l.length<=1000)(r:W.heap[p]?=some (.cells #[Y (x:Int)] 3 (0,0))):
 ∃(v':Value)(w':Wo),(Builtin.append_ #[23,23] 23 #[v,zS p 1 1]).run prog W=.ok v' w'/\Num w' B v' (l++[x])/\W.grownBy w' v.ownBlock:=by obtain⟨o,n,f,g,i⟩:=qaF infoInt;have d:=range_of_row r;obtain⟨v',w',c,b,m,_,_⟩:=run_append_own_at (P:=prog) (w:=W) B 23 23 3 o _ 1 8 underlying23 n f g i rfl dc v l.length _ h (zA p 0) 1 1 [Y (x:Int)] rfl (fun j u hj=>by rw[Addr.add_mid];exact d j u hj) (by intro u k;simp at k;subst k;rfl) ml U0 q;exact⟨v',w',c,Num.step b,m⟩
def RelCk(wa:Wo)(bc j:Nat)(v36:Value)(wr:Wo):Prop:=
 ∃(k:Nat)(v:Value),k<=2/\v36=Y k/\Num wr wa.heap.size v ((colT j).take k)/\wr.heap[bc]?=some (.cells [v].toArray 23 (0,0))/\Below bc wa wr/\wa.heap.size<=wr.heap.size
def RelCj(w2:Wo)(v9 v30:Value)(wr:Wo):Prop:=
 ∃(j:Nat)(bs:List (Nat × Nat)),j<=3/\v30=Y j/\LGrid wr w2.heap.size v9 (colsT.take j) bs (colsT.take j).length/\zB w2 wr
def CkS(bc:Nat)(v:Value)(br o x:Nat)(W:Wo):Prop:=W.heap[bc]?=some (.cells [v].toArray 23 (0,0))/\W.cell? (zA br o)=some (Y (x:Int))
theorem columns_rep(G:Nat)(w:Wo)(hG:zR w (zO G) [[1,1,1]]):
 zC 50 #[Ck 2 1 3 G 1 1,Y 3] w (BPost true w):=by
 have HX:=zH (bx_new w (Cb 2 1 3 G 1 1) 32);have HG:=zH hG;clear hG;go_enter func50,ntmps50;go_upto_region 1 with fail;generalize w.alloc (.cells #[Y 2,Y 1,zL none 0 0,Y 3,zS G 1 1] 32)=W0 at *;have I:=zH HX.o.range;have HD:=zH (dual_rep G W0 ((HG.o.keep HX.o.below).more HX.o.below.size));go_wp2_with (refine wpList_load_mid rfl 32 (.tmp 2) rfl w.heap.size 0 rfl (Cb 2 1 3 G 1 1) _ I.o underlying32 rfl codeSize ?_);go_fit HD.o;rintro e P ⟨⟨A2,c2,A',c',rfl,hr⟩,hb1⟩;have b1:=zH (HX.o.grow hb1);have bw:=zH (hr.lower HX.o.below.size);have ds:=Nat.lt_of_lt_of_le HX.o.2.2 hb1.size;clear hb1 hr HD HX I HG;clear W0;go_upto_region 2 with(refine qaH rfl 32 (.tmp 5) (.tmp 20) rfl P _ (Cd 2 1 A2 0 c2 3 A' 2 c') rfl rfl codeSize rfl sc ?_);have l:zB P (P.alloc (C9 2 1 A2 0 c2 3 A' 2 c')):=zV.alloc zn _;have a5:=zH (b1.o.grow l);have bx:=zH (bw.o.grow l);have bo:zK ((P.alloc (C9 2 1 A2 0 c2 3 A' 2 c')).heap[P.heap.size]?=some (C9 2 1 A2 0 c2 3 A' 2 c')):=heap_alloc_new _ _;have be:P.heap.size<(P.alloc (C9 2 1 A2 0 c2 3 A' 2 c')).heap.size:=U2;clear l b1 bw;generalize P.alloc (C9 2 1 A2 0 c2 3 A' 2 c')=W2 at *;generalize P.heap.size=Bd at *;clear P;have I:=zH a5.o.field;have U:zK (zC 72 #[.agg #[Y 2,Y 1,zL none 0 0]] W2 fun e w'=>(∃gb,e=.returned (.tuple (Cq gb))/\GFUp w' W2.heap.size gb 2 1 lT (logL lT (2^1)))/\zB W2 w'):=(fnew_up 2 1 [] none 0 W2 (fun h=>absurd h U2) U1);go_wp2_with (refine wpList_load_mid rfl 29 (.tmp 23) rfl w.heap.size 0 rfl [Y 2,Y 1,zL none 0 0] _ I.o underlying29 rfl fieldSize ?_);go_fit U.o;rintro e w3 ⟨⟨gb,rfl,hg⟩,hb3⟩;have a6:=zH (a5.o.grow hb3);have c7:=zH (bx.o.grow hb3);have cy:=zH ((hb3.block Bd be).trans bo.o);have de:=Nat.lt_of_lt_of_le be hb3.size;have cw:=zH hg.at_;clear hb3 hg a5 bx bo U I be;clear W2;have y3:w3.cell? (zA w.heap.size 3)=some (Y 3):=a6.o.cell rfl;go_wp2_with fail;have bm:zK (RelCj w3 (zL none 0 0) (Y ((0:Nat):Int)) w3):=⟨0,[],U0,rfl,⟨rfl,Nat.zero_le _,World.ownsRow_nil _ _ _ _,fun i hi=>by simp at hi,fun i hi=>by simp at hi⟩,Below.refl _ _⟩;go_loopw [9,30] (fun v9 v30 wr=>RelCj w3 v9 v30 wr) (fun _ v30 _=>3-(intOf v30).toNat);case atStart=>exact bm.o
 case round =>
  obtain⟨j,bs,hj,rfl,cl,hb⟩:=hrel;have T:=zH cl;have B:=zH hb;clear cl hb bm y3;by_cases c:j<3
  . (have j0 : (0 : Int) <= (j : Int) := by omega);have j1:(j:Int)<3:=U0;have dt:IntKind.i64.wrap ((j:Int)+1)=(j:Int)+1:=IntWalk.i64_in _ U0;obtain ⟨cr,af⟩:=cols_snoc c;have b0:=zH cr;have ah:=zH (cols_far c);obtain ⟨VO,co,e9,_⟩:=own_slice' T.o.out;rw [af] at e9;subst e9;clear cr;obtain ⟨dj,cg,an,ao,ap⟩:=qaF infoInts;have cx:=zH cg;have b2:=zH an;have b3:=zH ao;have b6:=zH ap;clear cg an ao ap;generalize colsT.take j=R at T b0 ah af;have J:=zH af;clear af;go_upto_region 8 with fail;have l:zB wr (wr.alloc (.cells #[zL none 0 0] 23)):=zV.alloc zn _;have a0:zK ((wr.alloc (.cells #[zL none 0 0] 23)).heap[wr.heap.size]?=some (.cells [zL none 0 0].toArray 23 (0,0))):=heap_alloc_new _ _;have ae:wr.heap.size<(wr.alloc (.cells #[zL none 0 0] 23)).heap.size:=U2;have ar:zK (∀ W,Below wr.heap.size (wr.alloc (.cells #[zL none 0 0] 23)) W->zB wr W):=fun W hW=>l.trans hW;have a1:=zH T.o;have s:=B.o.size;have E:=zH (B.o.trans (l.mono s));clear l T B;generalize wr.alloc (.cells #[zL none 0 0] 23)=wa at *;generalize ai:wr.heap.size=b at a0 ae s ar ⊢;have ac:=zH ai;clear ai;have y4:wa.cell? (zA Bd 4)=some (zL A' 2 c'):=(E.o.cell (p:=(zA Bd 4)) de).trans (cell_of_row _ _ 4 _ _ _ cy.o);(have c8:=zH<|c7.o.rowsAt.keep E.o);have bn:zK (RelCk wa b j (Y ((0:Nat):Int)) wa):=⟨0,zL none 0 0,U0,rfl,Num.nil _ _,a0.o,Below.refl _ _,Nat.le_refl _⟩;go_wp2_with fail;clear y4;go_loopw [36] (fun v36 wr=>RelCk wa b j v36 wr) (fun v36 _=>2-(intOf v36).toNat);case atStart=>exact bn.o
    case round =>
     obtain⟨k,v,hk,rfl,ak,M,hb,ag⟩:=hrel;have U:=zH ak;have HC:=zH M;have B:=zH hb;clear ak M hb bn a0;by_cases bb:k<2
     . (have k0 : (0 : Int) <= (k : Int) := by omega);have k1:(k:Int)<2:=U0;have du:IntKind.i64.wrap ((k:Int)+1)=(k:Int)+1:=IntWalk.i64_in _ U0;obtain ⟨cq,bd⟩:=rowI bb;obtain ⟨bR,oR,Ai,ci,rfl,dp,a8,ba⟩:=(c8.o.keep (B.o.mono s)).at_ (i:=k) bb;rw [cq] at a8 ba;rw [qaA,bd] at a8;obtain ⟨bi,oi,rfl,dq,a7⟩:=ba.at_ (k:=j) (by rw [qaA,bd];exact c);rw [qaC] at a7;have c9:=zH (col_step c bb);clear cq bd ba;generalize (rowT k).getD j 0=x at *;go_upto_region 11 with fail;have ab:zK (CkS b v bi (oi+j) x wr.drew):=⟨HC.o,a7⟩;(have bt:=zH<|U.o.grow (Below.refl _ wr).drew);(have bh:=zH<|B.o.drew);have ct:wa.heap.size<=wr.drew.heap.size:=ag;(have di:((colT j).take k).length<=1000:=by rw [List.length_take];omega);refine qaS 7 7 (CkS b v bi (oi+j) x) [(0,0),(1,1),(1,2),(1,3),(0,4),(2,5),(2,6)] default U1 U1 (fun _ _ d _ _ h=>by cases d <;> exact h) ab.o ?_;generalize wr.drew=K at *;clear U HC B ag a8 a7;simp only [List.map_cons,List.map_nil,List.getD_cons_zero,List.getD_cons_succ];apply qbF rfl
       . intro V hV;have y:V.cell? (zA b 0)=some v:=cell_of_row _ _ 0 _ _ _ hV.1;go_simp;rfl
       go_simp
       iterate 3
        apply qaM rfl
        . intro V
          go_simp
          rfl
        go_simp
       apply qbF rfl
       . intro V hV;have y:=hV.2;go_simp;rfl
       go_simp;have r:zB K (K.alloc (.cells #[Y (x:Int)] 3)):=zV.alloc zn _;have Z:zK (CkS b v bi (oi+j) x (K.alloc (.cells #[Y (x:Int)] 3))):=⟨(r.block b U0).trans ab.o.1,(r.cell (p:=(zA bi (oi+j))) (by show bi<K.heap.size;omega)).trans ab.o.2⟩;have a2:=zH (bt.o.grow r);have g:=zH (bh.o.trans (r.mono U0));have m:zK ((K.alloc (.cells #[Y (x:Int)] 3)).heap[K.heap.size]?=some (.cells #[Y (x:Int)] 3 (0,0))):=heap_alloc_new _ _;have O:=Nat.le_trans ct r.size;apply qdM rfl (v:=zS K.heap.size 1 1) (w':=K.alloc (.cells #[Y (x:Int)] 3))
       . go_simp
       . exact Z.o
       go_simp;generalize K.heap.size=nb at *;generalize K.alloc (.cells #[Y (x:Int)] 3)=W5 at *;obtain⟨v',Q,al,cm,ce⟩:=app_int x nb a2.o O di m.o;have L:=zV.grown ce O (fun i hi=>(World.ownsRow.lt a2.o i hi).1);have aa:zK (CkS b v bi (oi+j) x Q):=⟨(L.block b ae).trans Z.o.1,(L.cell (p:=(zA bi (oi+j))) (by show bi<wa.heap.size;omega)).trans Z.o.2⟩;have X:=zH cm;rw[<- c9.o] at X;have D:=zH (g.o.trans (L.mono (Nat.le_of_lt ae)));have bf:=Nat.le_trans O L.size;(have cj:((colT j).take (k+1)).length=k+1:=by rw[List.length_take,colT_len c];omega);obtain⟨VA,A,e6⟩:=X.o.slice;rw[cj] at e6;subst e6;clear cj;refine qdM rfl (exec_append (.tmp 40) (.tmp 45) 23 rfl rfl rfl al) aa.o ?_;go_simp;clear al cm ce L r Z a2 g m ab bt bh;refine qbH ?_;show wpList _ _ _ _ _ _;have yb:Q.cell? (zA b 0)=some v:=cell_of_row _ _ 0 _ _ _ aa.o.1;(have fb:Q.frozen? (zA b 0)=false:=by simp[World.frozen?,aa.o.1]);have cz:=zH (heap_set_same aa.o.1 0 (zL VA (k+1) A));have c6:zK (Num (Q.setCell (zA b 0) (zL VA (k+1) A)) wa.heap.size (zL VA (k+1) A) ((colT j).take (k+1))):=World.ownsRow.kept X.o (grown_set Q (zA b 0) _) (.inr (fun e=>by have:=(World.ownsRow.lt X.o b e).1;omega));have aq:=zH (D.o.setCell (p:=(zA b 0)) zn (zL VA (k+1) A));(have dh:wa.heap.size<=(Q.setCell (zA b 0) (zL VA (k+1) A)).heap.size:=by simpa using bf);go_wp2;go_roundw;case rel=>exact⟨k+1,_,U0,U3,c6.o,cz.o,aq.o,dh⟩
       case measure=>first|(simp[intOf];done)|(simp[intOf];omega)
     . (obtain rfl : k = 2:=by omega);rw[colT_all c] at U;obtain⟨p,hp,dd,cn⟩:=colT_ix c;have f:=colT_len c;obtain⟨VA,A,ev⟩:=U.o.slice;rw[f] at ev;subst ev;(have ad:zK (zI wr VA (nz (colT j))):=by have h:=U.o;unfold Num at h;rw[f] at h;exact(ints_of_own h f).ints);have az:=zH (indexnz_c 100 columns1_c (enters_of func100 U1 rfl) (colT j) VA A wr ad.o U0);rw[f,hp] at az;have yc:wr.cell? (zA b 0)=some (zL VA 2 A):=cell_of_row _ _ 0 _ _ _ HC.o;obtain⟨bv,ov,rfl,dr,cd⟩:=ad.o.at_ (k:=p) (by rw[qaA,f];exact dd);rw[qaC,cn] at cd;have p0:(0:Int)<=(p:Int):=U0;have p1:(p:Int)<2:=U0;have p3:¬(p:Int)<0:=U0;have av:=zH (E.o.trans (B.o.mono s));have ax:=zH ((cw.o.keep av.o).more av.o.size);have ay:=zH (inv_c 1 gb 2 1 wr.heap.size _ lT wr ft_T ax.o U0 U0);rw[inv_T] at ay;clear hp cn U;go_wp2_with fail;refine az.o.mono ?_;rintro e w' ⟨rfl,rfl⟩;clear az;go_wp2_with fail;refine ay.o.mono ?_;rintro e w' ⟨rfl,n,rfl⟩;clear ay cd;have dm:(wr.drewN n).cell? (zA b 0)=some (zL (some (zA bv ov)) 2 A):=yc;have a4:=zH (scale_c 1 gb 2 1 _ lT (colT j) (some (zA bv ov)) A (wr.drewN n) ft_T (ax.o.keep (qaB zV n)) U0 (colT_lt c) (ad.o.keep (qaB zV n)) U0);rw[scale_T c,f] at a4;have bp:zK ((wr.drewN n).heap[b]?=some (.cells [zL (some (zA bv ov)) 2 A].toArray 23 (0,0))):=HC.o;(have bj:=zH<|qaB B.o n);have b9:b<(wr.drewN n).heap.size:=Nat.lt_of_lt_of_le ae ag;clear ad ax av HC B ag;generalize wr.drewN n=wn at *;go_wp2_with fail;refine a4.o.mono ?_;rintro e w4 ⟨rfl,hr4,hb4⟩;have S:=zH ((hb4.block b b9).trans bp.o);have a3:=zH hr4;have bg:=zH (bj.o.trans (hb4.mono (Nat.le_of_lt b9)));have dg:=a3.o.lt.2;clear hr4 hb4 a4 bp bj yc dm;generalize wn.heap.size=q at *;clear wn;have y5:w4.cell? (zA b 0)=some (zL (some (zA bv ov)) 2 A):=cell_of_row _ _ 0 _ _ _ S.o;(have f5:w4.frozen? (zA b 0)=false:=by simp[World.frozen?,S.o]);go_upto_region 18 with fail;have m:=zH (heap_set_same S.o 0 (zS q 2 2));have H:=zH (a3.o.far (p:=(zA b 0)) (by show q≠b;omega) (zS q 2 2));have g:=zH (bg.o.setCell (p:=(zA b 0)) zn (zS q 2 2));clear y5 f5 S a3 bg dg;generalize w4.setCell (zA b 0) (zS q 2 2)=z at *;clear w4;(have C:=zH<|fun W hW=>a1.o.grow (ar.o W (g.o.trans hW)));have O:=Nat.le_trans E.o.size g.o.size;have cf:=H.o.lt;(have b7:zR z VO (nzs R):=by have h:=C.o z zV;rw[<- J.o] at h;exact h.up.rowsAt);have aw:=zH (containsfar_c (nzs R) (nz (colT j)) VO (zO q) co 2 b z b7 (by rw[qaA,f];exact cell_of_row _ _ 0 _ _ _ m.o) (H.o.ints H.o.lt.2) (by rw[nzs_len,J.o];omega) ah.o);rw[nzs_len,J.o] at aw;clear b7;go_wp2_with fail;refine aw.o.mono ?_;rintro e w' ⟨rfl,n2,rfl⟩;clear aw;have yc:(z.drewN n2).cell? (zA b 0)=some (zS q 2 2):=cell_of_row _ _ 0 _ _ _ m.o;have au:zK (Below b z (z.drewN n2)):=qaB zV n2;(have bz:zK (Row (z.drewN n2) b q 2 (nz ((R++[colT j]).getD R.length []))):=by show Row _ _ _ _ _;rw[getD_snoc_eq R (colT j) []];exact(H.o.below (qaB (Below.refl z.heap.size z) n2) cf.2).base U0);(have D:=zH<|g.o.trans au.o);have bq:=zH ((C.o _ au.o).wide (colT j));have bf:w3.heap.size<=(z.drewN n2).heap.size:=O;have dn:b<(z.drewN n2).heap.size:=Nat.lt_of_le_of_lt U0 cf.2;have db:=getD_snoc_eq R (colT j) [];clear g m H au C;generalize z.drewN n2=Q at *;(have bu:zK ((Q.alloc (.cells #[zS q 2 2] 23)).ownsRow w3.heap.size 23 1 (zL VO j co) j ((List.range j).map (hdr (R++[colT j]) bs))):=by have h:=bq.o.out;rw[J.o] at h;exact World.ownsRow.alloc h _);go_wp2_with (at_builtin;refine wpList_append_own_at _ rfl (.tmp 72) (.tmp 74) 30 rfl w3.heap.size 23 dj _ 1 24 underlying30 cx.o b2.o b3.o b6.o rfl dc (zL VO j co) j ((List.range j).map (hdr (R++[colT j]) bs)) rfl bu.o (zA Q.heap.size 0) 1 1 [zS q 2 2] rfl rfl ?c1 ?c2 ?c3 ?c4 ?c5 ?_);(try case c1=>exact World.news_of_block (cs:=#[zS q 2 2]) (t:=23) (fr:=(0,0)) (heap_alloc_new Q _));case c2=>first|rfl|(intro u hu;simp at hu;subst hu;rfl)
       case c3=>unfold maxLen;omega
       case c4=>omega
       case c5=>first|omega|(simp;omega)|assumption
       intro v' w7 N a9 _ b8;have br:=zH (a1.o.wide (colT j));have aj:=fun i hi=>(World.ownsRow.lt a1.o.out i hi).1;(have da:zK (LGrid w7 w3.heap.size v' (R++[colT j]) (bs++[(q,2)]) (R.length+1)):=by refine br.o.step U2 (by rw[ac.o];exact s) (ar.o _ D.o) (by rw[ac.o];exact bz.o) ?_ a9 (by simpa using b8);rw[db,f,J.o];exact N);(have aq:=zH<|((E.o.trans (D.o.mono s)).alloc bf _).grown a9 so (fun i hi=>aj i hi));clear N a9 b8 bu bq D bz aj br;go_wp2;go_roundw;case rel=>exact⟨j+1,bs++[(q,2)],U0,U3,by rw[b0.o,List.length_append];exact da.o,aq.o⟩
       case measure=>first|(simp[intOf];done)|(simp[intOf];omega)
  . go_wp2;go_ret;exact⟨rfl,a6.o.below.trans (B.o.mono a6.o.below.size)⟩
end Go.Proofs.YtkcdlealipfnbaaGreat
namespace Go.Proofs.YtkcdlealipfnbaaGreat
open Go.RowKit Pln
structure RtI (w:Wo) (B2 B6 B7 gb gs:Nat) (O:Ops) (v:LN) (q n:Nat) (W:Wo):Prop where
 b2:W.cell? (zA B2 0)=some (zP gb)
 b6:W.heap[B6]?=some (.cells #[zS gs v.length v.length] 23 (0,0))
 row:Row W w.heap.size gs v.length (nz v)
 out:∃(u:Value)(rs:LN),W.heap[B7]?=some (.cells #[u] 23 (0,0))/\Num W B6 u rs/\(∀r∈rs,r<q/\evN O v r=0)/\rs.length<=n
 low:zB w W
def GFM(w:Wo)(B gb p m:Nat)(mod:LI)(l lg:LN):Prop:=
 gb<B/\∃(A3:OA)(c3 ge ce gl cl:Nat),w.heap[gb]?=some (Co p m A3 mod.length c3 ((p^m:Nat):Int) ge l.length ce gl lg.length cl)/\
  IntsAt w B A3 mod/\IntsAt w B (zO ge) (nz l)/\IntsAt w B (zO gl) (nz lg)
def RootOk(p m:Int)(mod:LI)(n x:Int):Prop:=fieldOK p m mod=true/\∃x':Nat,x=(x':Int)/\x'<p.toNat^m.toNat/\x'≠0/\n=((ordT (logL (lOf p m mod) (p.toNat^m.toNat)) (p.toNat^m.toNat) x':Nat):Int)
structure Bx4 (w:Wo) (fs:List Value) (n x z:Int) (W:Wo):Prop where
 k2:W.heap[w.heap.size]?=some (.cells fs.toArray 29 (0,0))
 k3:W.heap[w.heap.size+1]?=some (.cells #[Y n] 3 (0,0))
 k4:W.heap[w.heap.size+1+1]?=some (.cells #[Y x] 3 (0,0))
 k5:W.heap[w.heap.size+1+1+1]?=some (.cells #[Y z] 41 (0,0))
 low:zB w W
structure RotI (w:Wo) (fs:List Value) (n:Int) (B6 gb:Nat) (w2 W:Wo):Prop where
 bx:Bx4 w fs n 0 0 W
 b6:W.heap[B6]?=some (.cells #[zP gb] 100 (0,0))
 low:zB w2 W
def pwN(O:Ops)(r:Nat):Nat->Nat
 |0=>1
 |k+1=>O.mul (pwN O r k) r
def pwL(O:Ops)(r n:Nat):LN:=(List.range n).map (pwN O r)
def imN(O:Ops)(p m1 r x:Nat):Nat:=Dv.dotO O 0 (digs p m1 x) (pwL O r m1)
theorem qfK{w w':Wo}{b:Nat}(h:w.grownBy w' (some b))(c:b<=w.heap.size):Below b w w':=
 ⟨h.os,h.tape,h.output,h.size,fun k hk=>h.block k U0 (fun e=>by injection e with e;omega)⟩
end Go.Proofs.YtkcdlealipfnbaaGreat
namespace Go.Proofs.YtkcdlealipfnbaaGreat
open Go.RowKit Pln Go.Proofs.Tryz
theorem ch_lim{n k:Nat}(f:n<=64):Al.ch n k<BB^3:=by have b:=Al.ch_le n k;have c:2^n<=2^64:=Nat.pow_le_pow_right dc f;have d:(2:Nat)^64<BB^3:=dc;omega
def RelBi(w:Wo)(n:Nat)(v6 v27:Value)(m:Nat)(wr:Wo):Prop:=
 ∃i:Nat,i<=m/\v27=Y (i:Int)/\NatV wr w.heap.size v6 (Al.ch n i)/\zB w wr
theorem binomial_c(n k:Nat)(w:Wo)(hn:n<=64)(hk:k<=n):
 zC 238 #[Y (n:Int),Y (k:Int)] w fun e w'=>∃v,e=.returned (.tuple #[v,Y 0])/\NatV w' w.heap.size v (Al.ch n k)/\zB w w':=by
 have r:zK (zB w (w.alloc (.cells #[.int .u32 ((1:Nat):Int)] 190))):=zV.alloc zn _;obtain⟨m,J⟩:∃m,m=min k (n-k):=⟨_,rfl⟩;have ah:2*m<=n:=U0;have D:zK (Al.ch n m=Al.ch n k):=by
  show _=_;by_cases c:k<=n-k
  . rw[J,Nat.min_eq_left c]
  . rw[J,Nat.min_eq_right U0,Al.ch_symm hk]
 have N:zK (RelBi w n (zS w.heap.size 1 1) (Y 0) m (w.alloc (.cells #[.int .u32 ((1:Nat):Int)] 190))):=⟨0,U0,rfl,by
  have:Al.ch n 0=1:=by unfold Al.ch;rfl
  rw[this]
  exact one_nat dc dc,r.o⟩
 have X:min (k:Int) ((n:Int)-(k:Int))=(m:Int):=U0;have V:decide ((4096:Int)<(n:Int))=false:=decide_eq_false U0;have W:decide ((n:Int)<(k:Int))=false:=decide_eq_false U0;clear J r;go_enter func238,ntmps238;go_upto_region 6 with fail;have y:zK (RelBi w n (zS w.heap.size 1 1) (Y 0) m (w.alloc (.cells #[.int .u32 1] 190))):=N.o;clear N;generalize w.alloc (.cells #[.int .u32 1] 190)=U at *;go_cut [26,27] (fun v26 v27 wx=>v26=Y (m:Int)/\v27=Y 0/\wx=U);case first=>
  go_wp2_with fail
  all_goals
   go_meet
   exact⟨by congr 1;omega,rfl,rfl⟩
 case rest=>
 obtain⟨rfl,rfl,rfl⟩:=hcut;clear V W X;go_wp2;go_loopw [6,27] (fun v6 v27 wr=>RelBi w n v6 v27 m wr) (fun _ v27 _=>m-(intOf v27).toNat);case atStart=>exact y.o
 case round =>
  obtain⟨i,hi,rfl,K,b⟩:=hrel;have p:=zH b;obtain⟨A,l,c,rfl,hc,I,M,wl⟩:=K;have af:l.length<=3:=cn_len I (by rw[M];exact ch_lim hn);have s:=zH I;have u:=zH M;have z:=zH wl;clear b I M wl y;by_cases ag:i<m
  . obtain ⟨x,O⟩ : ∃ x,x = n - i := ⟨_,rfl⟩;have ai:0<x:=U0;have Z:(n:Int)-(i:Int)=(x:Int):=U0;have aa:IntKind.u32.wrap (x:Int)=(x:Int):=IntWalk.u32_in _ U0;(have ab:IntKind.u32.wrap ((i:Int)+1)=((i+1:Nat):Int):=by rw [IntWalk.u32_in _ U0];omega);have h:zK (zB wr (wr.alloc (.cells #[.int .u32 (x:Int)] 190))):=zV.alloc zn _;have t:=zH (times_c A (zO wr.heap.size) l [x] c 1 _ (z.o.words.up h.o) (one_word (w:=wr) (x:=x)) s.o.1 (fun d hd=>by rw [List.mem_singleton.1 hd];unfold BB;omega) U0 U2);(have B:val BB [x]=x:=by show x+BB*0=x;omega);(have H:zK (val BB l*val BB [x]=Al.ch n (i+1)*(i+1)):=by show _=_;rw [B,u.o,O,Al.ch_step]);rw [H.o] at t;clear O B;go_wp2_with fail;refine t.o.mono ?_;rintro e Q ⟨v,rfl,K,b⟩;have f:zK (zB w Q):=p.o.trans ((h.o.trans (b.mono h.o.size)).mono p.o.size);obtain ⟨R,P,c1,rfl,ac,j,L,C⟩:=K;have ad:=Al.ch_le n (i+1)
    have ae:P.length<=6:=cn_len j (by
     rw[L]
     have h3:=ch_lim (n:=n) (k:=i+1) hn
     have h4:i+1<BB^3:=by
      have:(1000:Nat)<BB^3:=dc
      omega
     have h5:BB^6=BB^3*BB^3:=by rw[<- Nat.pow_add]
     rw[h5]
     exact Nat.mul_lt_mul'' h3 h4)
    have E:=zH (digit_c R P c1 (i+1) Q C.words j.1 U0 U0 U0);rw[L,Nat.mul_div_cancel _ U0] at E;clear b j L C t;go_wp2_with fail;refine E.o.mono ?_;rintro e w2 ⟨q,rfl,hq,b⟩;have T:=zH hq;have g:=zH (f.o.trans (b.mono f.o.size));clear hq b E;go_wp2;go_roundw;case rel=>exact⟨i+1,U0,U3,T.o.low f.o.size,g.o⟩
    case measure=>simp[intOf];omega
  . (obtain rfl:i=m:=by omega);have t:=zH (trim_c A l c wr z.o.words U0 hc);go_wp2_with fail;refine t.o.mono ?_;rintro e w' ⟨v,rfl,ho,b⟩;have S:=zH ho;have g:=zH (p.o.trans (b.mono p.o.size));clear ho b;go_wp2;go_ret2;refine⟨_,rfl,?_,g.o⟩;rw[<- D.o,<- u.o];exact(S.o.nat s.o.1).low p.o.size
def sg(n:Bool)(N:Nat):Int:=if n=true then -(N:Int) else(N:Int)
theorem sg_not(n:Bool)(N:Nat):sg (!n) N=-sg n N:=by unfold sg;cases n<;>simp
theorem sg_mul(m n:Bool)(M N:Nat):sg (m != n) (M*N)=sg m M*sg n N:=by unfold sg;cases m<;>cases n<;>simp[Int.neg_mul,Int.mul_neg]
theorem qfE(n:Bool)(N:Nat):(sg n N).natAbs=N:=by unfold sg;split<;>omega
def IntV(w:Wo)(lo:Nat)(n:Bool)(v:Value)(Z:Int):Prop:=∃N,NatV w lo v N/\Z=sg n N
def IntR(Z:Int)(w:Wo)(e:Ending)(w':Wo):Prop:=∃n v,e=.returned (.agg #[.bool n,v])/\IntV w' w.heap.size n v Z/\zB w w'
theorem intSize:(prog.info? 196).map (·.size)=some 2:=U1
theorem qeS{w:Wo}{lo:Nat}{v:Value}{N:Nat}(h:NatV w lo v N):∃A k c,v=zL A k c:=by obtain⟨A,l,c,e,_⟩:=h;exact⟨A,l.length,c,e⟩
theorem natV_one{w:Wo}{lo:Nat}{v:Value}{N:Nat}(h:NatV w lo v N):v.oneCell'=true:=by obtain⟨A,l,c,rfl,_⟩:=h;rfl
theorem small_n(n:Nat)(w:Wo)(r:n<1000000):zC 241 #[Y (n:Int)] w (IntR n w):=by have b:zK (zB w (w.alloc (.cells #[.bool false,zL none 0 0] 196))):=zV.alloc zn _;have d:zK ((w.alloc (.cells #[.bool false,zL none 0 0] 196)).heap[w.heap.size]?=some (.cells #[.bool false,zL none 0 0] 196 (0,0))):=heap_alloc_new _ _;have q:IntKind.u64.wrap (n:Int)=(n:Int):=IntWalk.u64_in _ U0;go_enter func241,ntmps241;go_wp2_with fail;generalize w.alloc (.cells #[.bool false,zL none 0 0] 196)=W at *;have h:=zH (natOf_c n W (by unfold BB;omega));refine h.o.mono ?_;rintro e m ⟨v,rfl,hv,hb⟩;obtain⟨A,k,c,rfl⟩:=qeS hv;have i:=zH b.o.size;have f:zK (w.heap.size<W.heap.size):=(Array.getElem?_eq_some_iff.1 d.o).1;have l:=zH ((hb.block _ f.o).trans d.o);have p:=zH hv;have g:=zH (b.o.trans (hb.mono i.o));clear hv hb h b d;go_wp2_with (refine wpList_store_row rfl 196 (.tmp 2) (.tmp 6) rfl m w.heap.size 196 #[.bool false,zL none 0 0] #[.bool false,zL A k c] rfl rfl l.out intSize rfl sc ?_);refine bodyPost_ret (results_cell_row (P:=prog) rfl _ _ w.heap.size 196 #[.bool false,zL A k c] (0,0) _ rfl (setRow_same _ _ _ _ _ l.out) underlying196 rfl intSize) rfl ?_;refine⟨false,_,rfl,⟨n,(p.o.of_blocks U2 fun j hj _=>setRow_other m w.heap.size j _ (by have:=f.o;omega)).low i.o,rfl⟩,qaR g.o zn _⟩
end Go.Proofs.YtkcdlealipfnbaaGreat
