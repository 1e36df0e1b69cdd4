/- Parts of the proof. -/
import Derived.Test.YtndipkplnkfoeaaGreatR15
import Derived.Test.YtndipkplnkfoeaaGreatR17
import Derived.RangeFuncCalls
import Derived.RangeFuncBox
import Derived.OwnWalkIn
import Derived.TacticsInMore
import Derived.RangeFuncBound
import Derived.LoopNIn
import Derived.LoopIn
set_option maxRecDepth 100000
set_option maxHeartbeats 8000000
namespace Go.Proofs.YtndipkplnkfoeaaGreat
open Go.RowKit Pln
theorem ker_T:kerM (opsT 2 1 lT) [[1,1,1]] 3=[[1,0,1],[0,1,1]]:=U1
theorem err_T:errC 2 1 [] 3 [[1,1,1]]=0:=U1
def LSk(a w:World):Prop:=Below a.heap.size a w
def RelDu(w1:World)(v5 v6:Value)(wx:World):Prop:=
 ∃(b:Nat)(A':Option Addr)(c':Nat),v5=zP b/\v6=Y 0/\wx.heap[b]?=some (.cells (De 3 A' 2 c').toArray 54 (0,0))/\RowsUp wx w1.heap.size A' [[1,0,1],[0,1,1]]/\Below w1.heap.size w1 wx
def DualRep(w:World)(e:Ending)(w':World):Prop:=
 (∃(A':Option Addr)(c':Nat),e=.returned (.tuple #[.agg #[Y 2,Y 1,zL none 0 0,Y 3,zL A' 2 c'],Y 0])/\RowsUp w' w.heap.size A' [[1,0,1],[0,1,1]])/\Below w.heap.size w w'
theorem dual_rep(G:Nat)(w:World)(hG:RowsAt w w.heap.size (zO G) [[1,1,1]]):
 zC 98 #[Da 2 1 3 G 1 1] w (DualRep w):=by
 have y:=zH (b2_new w (Cr 2 1 3 G 1 1) 32 (Cd) 32);have S:=zH hG;clear hG;go_enter Tryz.func98,Tryz.ntmps98;go_upto_region 1 with fail;generalize (w.alloc (Dn 2 1 3 G 1 1)).alloc (Cc)=A at *;have j:=zH y.out.range;have n:Hid (zC 27 #[Da 2 1 3 G 1 1] A fun e w'=>e=.returned (Y (codeZ 2 1 [] 3 [[1,1,1]]))/\Below A.heap.size A w'):=(codecheck_c 2 1 [] none 0 3 [[1,1,1]] (zO G) 1 A (fun h=>absurd h U2) U2 ((S.out.keep y.out.below).more y.out.below.size) U2);rw[codeZ_rep] at n;go_wp2_with (refine wpList_load_mid rfl 32 (.tmp 1) rfl w.heap.size 0 rfl (Cr 2 1 3 G 1 1) _ j.out Tryz.underlying32 rfl codeSize ?_);(with_reducible refine n.out.mono ?_);rintro e i ⟨rfl,hb1⟩;have f:=zH (y.out.grow hb1);clear hb1 n y j;clear A;have s:Hid (∀W,LSk i W->W.rangeAt w.heap.size 0 (Cr 2 1 3 G 1 1)):=fun W hW=>(f.out.grow hW).range;have t:Hid (∀W,LSk i W->W.rangeAt w.heap.size 0 (Dl 2 1)):=fun W hW=>(f.out.grow hW).field;have x:Hid (LSk i i.drew):=(Below.refl _ _).drew;have m:Hid (∀W,LSk i W->zC 156 #[.agg #[Y 2,Y 1,zL none 0 0],.agg #[Y 3,zS G 1 1]] W fun e w'=>(∃(c:Option Addr)(g:Nat),e=.returned (.tuple #[Cy 3 c 2 g,Y 0])/\RowsUp w' W.heap.size c [[1,0,1],[0,1,1]])/\Below W.heap.size W w'):=fun W hW=>by have h:=kernel_c 2 1 [] none 0 3 [[1,1,1]] (zO G) 1 W (fun h=>absurd h U2) U2 ((((S.out.keep f.out.below).more f.out.below.size).keep hW).more (Below.size hW)) U0 err_T;have e:kerM (opsT (2:Int).toNat (1:Int).toNat (lOf 2 1 [])) [[1,1,1]] 3=[[1,0,1],[0,1,1]]:=ker_T;rw[e] at h;exact h
 go_upto_region 4 with fail;go_cut [5,6] (fun v5 v6 wx=>RelDu i v5 v6 wx);case first =>
  refine wp_region_mixx 10 9 8 (LSk i) [(1,0),(0,1),(0,2),(2,3),(2,4),(1,5),(1,6),(1,7)] [(3,9)] default _ (Dj) U1 U1 (fun _ _ d _ _ h=>by cases d<;>exact h) rfl rfl ?_ (fun W hW=>Below.alloc hW (Below.size hW) _) x.out ?_
  . intro a w;unfold ptrTo;go_simp
  simp only[List.map_cons,List.map_nil,List.getD_cons_zero,List.getD_cons_succ];apply x_free rfl
  . intro W;go_simp;rfl
  go_simp;refine x_load_mid rfl 29 (.tmp 14) rfl w.heap.size 0 rfl (Dl 2 1) _ t.out Tryz.underlying29 rfl fieldSize ?_;go_simp;refine x_load_mid rfl 32 (.tmp 1) rfl w.heap.size 0 rfl (Cr 2 1 3 G 1 1) _ s.out Tryz.underlying32 rfl codeSize ?_;go_simp;apply x_call rfl
  . intro W;go_simp;exact⟨rfl,rfl⟩
  intro W1 aa B;with_reducible refine(gen_c 2 1 none 0 0 3 (zO G) 1 1 W1).mono ?_
  rintro e E ⟨rfl,hb2⟩;refine⟨_,rfl,Below.trans B (hb2.mono (Below.size B)),hb2,?_⟩;go_simp;apply x_call rfl
  . intro W;go_simp;exact⟨rfl,rfl⟩
  intro L ab l;have r:=zH (m.out L l);with_reducible refine r.out.mono ?_
  rintro e w4 ⟨⟨c,g,rfl,hr4⟩,hb4⟩;refine⟨_,rfl,Below.trans l (hb4.mono (Below.size l)),hb4,?_⟩;go_simp
  iterate 3
   apply x_free rfl
   . intro W
     go_simp
     rfl
   go_simp
  refine x_nil ?_;intro M b p C D U q;have R:i.heap.size<=L.heap.size:=Below.size l;have N:¬(L.heap.size<=b/\b<w4.heap.size):=fun h=>U (.inr h)
  have K:Hid (RowsUp (M.setRow b #[Y 3,zL c 2 g]) i.heap.size c [[1,0,1],[0,1,1]]):=
   (hr4.of_blocks (by simpa using p.size) (fun k hk1 hk2=>by rw[setRow_other _ _ _ _ U0,p.block k hk2])).lower R
  have I:Hid ((M.setRow b #[Y 3,zL c 2 g]).heap[b]?=some (.cells (De 3 c 2 g).toArray 54 (0,0))):=setRow_same _ _ _ _ _ q;have H:Hid (Below i.heap.size i (M.setRow b #[Y 3,zL c 2 g])):=qaR C D _;unfold ptrTo;refine qcA rfl 54 (.tmp 5) (.tmp 19) rfl b 54 (Dk) #[Y 3,zL c 2 g] rfl rfl q matSize rfl sc ?_;go_simp;refine qbH ?_;show wpList _ _ _ _ _ _;clear hr4 hb4 p C D U q N r;go_wp2_with fail;go_meet;exact⟨b,c,g,rfl,rfl,I.out,K.out,H.out⟩
 case rest=>
  obtain⟨b,c,g,rfl,rfl,O,X,V⟩:=hcut;have o:=zH (f.out.grow V);have v:=zH X;have j:=zH o.out.field;have u:Hid (wc.rangeAt b 0 (De 3 c 2 g)):=range_of_row O;have Q:w.heap.size<=i.heap.size:=f.out.below.size;have ac:w.heap.size+1<i.heap.size:=f.out.2.2.2;clear O X V f s t x m
  go_wp2_with (first
   |(refine wpList_load_mid rfl 29 (.tmp 21) rfl w.heap.size 0 rfl (Dl 2 1) _ j.out Tryz.underlying29 rfl fieldSize ?_)
   |(refine wpList_load_mid rfl 54 (.tmp 5) rfl b 0 rfl (De 3 c 2 g) _ u.out Tryz.underlying54 rfl matSize ?_))
  (with_reducible refine(of_nil 2 1 3 c 2 g wc).mono ?_);rintro e E ⟨rfl,hb2⟩;have z:=zH (o.out.grow hb2);have J:=zH (v.out.grow hb2);have Z:=zH z.out.2.1;have T:=zH (z.out.set [Y 2,Y 1,zL none 0 0,Y 3,zL c 2 g]);clear hb2 o v j u;go_wp2_with (refine wpList_store_row rfl 32 (.tmp 2) (.tmp 26) rfl E (w.heap.size+1) 32 (Cb) #[Y 2,Y 1,zL none 0 0,Y 3,zL c 2 g] rfl rfl Z.out codeSize rfl sc ?_);refine bodyPost_ret (results_row_one (P:=Tryz.prog) rfl _ _ (w.heap.size+1) 32 #[Y 2,Y 1,zL none 0 0,Y 3,zL c 2 g] (0,0) _ _ rfl rfl T.out.2.1 Tryz.underlying32 rfl codeSize) rfl ?_;have hv:RowsUp (E.setRow (w.heap.size+1) #[Y 2,Y 1,zL none 0 0,Y 3,zL c 2 g]) i.heap.size c [[1,0,1],[0,1,1]]:=J.out.of_blocks U2 fun k O _=>setRow_other E (w.heap.size+1) k _ U0;exact⟨⟨c,g,rfl,hv.lower Q⟩,T.out.below⟩
theorem columns2_c(o c:List Int)(f d:Option Addr)(i cc h:Nat)(W:World)(k:IntsAt W W.heap.size f o)(l:W.cell? (zA h 0)=some (zL d c.length cc))(j:IntsAt W W.heap.size d c)(m:o.length<=1000)(g:o≠c):
 zC 103 #[zL f o.length i,zP h] W (Quiet (.bool false) W):=by have b:=zH (sequal_c o c f d i cc W k j U0);rw[decide_eq_false g] at b;clear k j;go_enter Tryz.func103,Tryz.ntmps103;go_wp2_with fail;refine b.out.mono ?_;rintro e w' ⟨rfl,n,rfl⟩;go_wp2_with fail;go_ret;exact⟨rfl,n,rfl⟩
def RelFar(w:World)(n:Nat)(v8:Value)(wr:World):Prop:=∃k m:Nat,k<=n/\v8=Y k/\wr=w.drewN m
theorem indexfar_c(R:List (List Int))(D:List Int)(A H:Option Addr)(c cc E:Nat)(w:World)(I:RowsAt w w.heap.size A R)(J:w.cell? (zA E 0)=some (zL H D.length cc))(K:IntsAt w w.heap.size H D)(M:R.length<=1000)(L:∀ o∈R,o.length<=1000/\o≠D):
 zC 159 #[zL A R.length c,.func (.func 103) #[] #[zP E]] w (Quiet (Y (-1)) w):=by
 have p:=zH I;have s:Hid (∀(m k:Nat)(Ao:Option Addr)(co:Nat),k<R.length->IntsAt w w.heap.size Ao (R.getD k [])->zC 103 #[zL Ao (R.getD k []).length co,zP E] (w.drewN m) (Quiet (.bool false) (w.drewN m))):=fun m k Ao co h ho=>by
  have v:R.getD k []∈R:=by(have:R.getD k []=R[k]:=by simp[List.getD,h]);rw[this];exact List.getElem_mem h
  obtain⟨t,u⟩:=L _ v;exact columns2_c (R.getD k []) D Ao H co cc E (w.drewN m) (ho.keep (qaB (Below.refl _ _) m)) J (K.keep (qaB (Below.refl _ _) m)) t u
 clear I J K L;go_enter Tryz.func159,Tryz.ntmps159;go_wp2_with fail;go_loopw [8] (fun v8 wr=>RelFar w R.length v8 wr) (fun v8 _=>R.length-(intOf v8).toNat);case atStart=>exact⟨0,0,U0,rfl,rfl⟩
 case round =>
  obtain⟨k,m,h,rfl,rfl⟩:=hrel;by_cases g:k<R.length
  . obtain⟨b,o,j,l,rfl,y,d,f⟩:=p.out.at_ (i:=k) g;have C:(w.drewN m).cell? (zA b (o+k))=some (zL j (R.getD k []).length l):=d;have q:=zH (s.out m k j l g f);have z:(0:Int)<=(k:Int):=U0;have B:(k:Int)<(R.length:Int):=U0;have x:IntKind.i64.wrap ((k:Int)+1)=(k:Int)+1:=IntWalk.i64_in _ U0;clear d f;generalize R.getD k []=r at *;go_wp2_with fail;refine q.out.mono ?_;rintro e w' ⟨rfl,n,rfl⟩;go_wp2_with fail;go_roundw;case rel=>exact⟨k+1,m+n,U0,gn,df⟩
    case measure=>exact mE
  . (obtain rfl:k=R.length:=by omega);go_wp2_with fail;go_ret;exact⟨rfl,m,rfl⟩
theorem containsfar_c(R:List (List Int))(d:List Int)(A f:Option Addr)(c cc g:Nat)(w:World)(h:RowsAt w w.heap.size A R)(k:w.cell? (zA g 0)=some (zL f d.length cc))(i:IntsAt w w.heap.size f d)(l:R.length<=1000)(j:∀o∈R,o.length<=1000/\o≠d):
 zC 102 #[zL A R.length c,.func (.func 103) #[] #[zP g]] w (Quiet (.bool false) w):=by have b:=zH (indexfar_c R d A f c cc g w h k i l j);clear h i j;go_enter Tryz.func102,Tryz.ntmps102;go_wp2_with fail;refine b.out.mono ?_;rintro e w' ⟨rfl,n,rfl⟩;go_wp2_with fail;go_ret;exact⟨rfl,n,rfl⟩
def colT(j:Nat):List Nat:=[[1,0],[0,1],[1,1]].getD j []
def rowT(k:Nat):List Nat:=[[1,0,1],[0,1,1]].getD k []
def colsT:List (List Nat):=[[1,0],[0,1],[1,1]]
theorem colT_len{j:Nat}(h:j<3):(colT j).length=2:=by
 match j,h with
 |0,_=>rfl
 |1,_=>rfl
 |2,_=>rfl
theorem colT_lt{j:Nat}(h:j<3):∀x∈colT j,x<2:=by
 match j,h with
 |0,_=>decide
 |1,_=>decide
 |2,_=>decide
theorem colT_ix{j:Nat}(h:j<3):∃p:Nat,nzIx (colT j) 0=(p:Int)/\p<2/\(colT j).getD p 0=1:=by
 match j,h with
 |0,_=>exact⟨0,rfl,U0,rfl⟩
 |1,_=>exact⟨1,rfl,U0,rfl⟩
 |2,_=>exact⟨0,rfl,U0,rfl⟩
theorem inv_T:invT lT (logL lT (2^1)) (2^1) 1=1:=U1
theorem mul_T0:mulT lT (logL lT (2^1)) (2^1) 1 0=0:=U1
theorem scale_T{j:Nat}(h:j<3):scaleRow (opsT 2 1 lT) 1 (colT j)=colT j:=by
 have c:(opsT 2 1 lT).mul 1 0=0:=mul_T0;have b:(opsT 2 1 lT).mul 1 1=1:=mul_T;unfold scaleRow;match j,h with
 |0,_=>show[(opsT 2 1 lT).mul 1 1,(opsT 2 1 lT).mul 1 0]=[1,0];rw[c,b]
 |1,_=>show[(opsT 2 1 lT).mul 1 0,(opsT 2 1 lT).mul 1 1]=[0,1];rw[c,b]
 |2,_=>show[(opsT 2 1 lT).mul 1 1,(opsT 2 1 lT).mul 1 1]=[1,1];rw[b]
theorem col_step{j k:Nat}(b:j<3)(c:k<2):(colT j).take (k+1)=(colT j).take k++[(rowT k).getD j 0]:=by
 match j,b,k,c with
 |0,_,0,_=>rfl
 |0,_,1,_=>rfl
 |1,_,0,_=>rfl
 |1,_,1,_=>rfl
 |2,_,0,_=>rfl
 |2,_,1,_=>rfl
theorem cols_far{j:Nat}(h:j<3):∀o∈nzs (colsT.take j),o.length<=1000/\o≠nz (colT j):=by
 match j,h with
 |0,_=>intro o b;exact absurd b (by simp[nzs])
 |1,_=>decide
 |2,_=>decide
theorem rowI{k:Nat}(h:k<2):([[1,0,1],[0,1,1]]:List (List Int)).getD k []=nz (rowT k)/\(rowT k).length=3:=by
 match k,h with
 |0,_=>exact⟨rfl,rfl⟩
 |1,_=>exact⟨rfl,rfl⟩
theorem colT_all{j:Nat}(h:j<3):(colT j).take 2=colT j:=by
 match j,h with
 |0,_=>rfl
 |1,_=>rfl
 |2,_=>rfl
theorem cols_snoc{j:Nat}(h:j<3):colsT.take (j+1)=colsT.take j++[colT j]/\(colsT.take j).length=j:=by
 match j,h with
 |0,_=>exact⟨rfl,rfl⟩
 |1,_=>exact⟨rfl,rfl⟩
 |2,_=>exact⟨rfl,rfl⟩
theorem app_int{W:World}{B:Nat}{v:Value}{l:List Nat}(x p:Nat)(h:Num W B v l)(q:B<=W.heap.size)(s:l.length<=1000)(r:W.heap[p]?=some (.cells #[Y (x:Int)] 3 (0,0))):
 ∃(v':Value)(w':World),(Builtin.append_ #[23,23] 23 #[v,zS p 1 1]).run Tryz.prog W=.ok v' w'/\Num w' B v' (l++[x])/\W.grownBy w' v.ownBlock:=by obtain⟨o,n,f,g,i⟩:=qaF infoInt;have d:W.rangeAt p 0 [Y (x:Int)]:=range_of_row r;obtain⟨v',w',c,b,m,_,_⟩:=run_append_own_at (P:=Tryz.prog) (w:=W) B 23 23 3 o _ 1 8 Tryz.underlying23 n f g i rfl dc v l.length _ h (zA p 0) 1 1 [Y (x:Int)] rfl (fun j u hj=>by rw[Addr.add_mid];exact d j u hj) (by intro u k;simp at k;subst k;rfl) U3 U0 q;exact⟨v',w',c,Num.step b,m⟩
def RelCk(wa:World)(bc j:Nat)(v36:Value)(wr:World):Prop:=
 ∃(k:Nat)(v:Value),k<=2/\v36=Y k/\Num wr wa.heap.size v ((colT j).take k)/\wr.heap[bc]?=some (.cells [v].toArray 23 (0,0))/\Below bc wa wr/\wa.heap.size<=wr.heap.size
def RelCj(w2:World)(v9 v30:Value)(wr:World):Prop:=
 ∃(j:Nat)(bs:List (Nat × Nat)),j<=3/\v30=Y j/\LGrid wr w2.heap.size v9 (colsT.take j) bs (colsT.take j).length/\Below w2.heap.size w2 wr
def CkS(bc:Nat)(v:Value)(br o x:Nat)(W:World):Prop:=W.heap[bc]?=some (.cells [v].toArray 23 (0,0))/\W.cell? (zA br o)=some (Y (x:Int))
theorem columns_rep(G:Nat)(w:World)(hG:RowsAt w w.heap.size (zO G) [[1,1,1]]):
 zC 50 #[Da 2 1 3 G 1 1,Y 3] w (BPost true w):=by
 have HX:=zH (bx_new w (Cr 2 1 3 G 1 1) 32);have HG:=zH hG;clear hG;go_enter Tryz.func50,Tryz.ntmps50;go_upto_region 1 with fail;generalize w.alloc (Dn 2 1 3 G 1 1)=W0 at *;have M:=zH HX.out.range;have HD:=zH (dual_rep G W0 ((HG.out.keep HX.out.below).more HX.out.below.size));go_wp2_with (refine wpList_load_mid rfl 32 (.tmp 2) rfl w.heap.size 0 rfl (Cr 2 1 3 G 1 1) _ M.out Tryz.underlying32 rfl codeSize ?_);(with_reducible refine HD.out.mono ?_);rintro e D ⟨⟨A',c',rfl,hr⟩,hb1⟩;have b2:=zH (HX.out.grow hb1);have bx:=zH (hr.lower HX.out.below.size);have dr:w.heap.size<D.heap.size:=Nat.lt_of_lt_of_le HX.out.2.2 hb1.size;clear hb1 hr HD HX M HG;clear W0;go_upto_region 2 with(refine qaH rfl 32 (.tmp 5) (.tmp 20) rfl D _ #[Y 2,Y 1,zL none 0 0,Y 3,zL A' 2 c'] rfl rfl codeSize rfl sc ?_);have q:Below D.heap.size D (D.alloc (.cells #[Y 2,Y 1,zL none 0 0,Y 3,zL A' 2 c'] 32)):=(Below.refl _ _).alloc (Nat.le_refl _) _;have a6:=zH (b2.out.grow q);have bz:=zH (bx.out.grow q);have bp:Hid ((D.alloc (.cells #[Y 2,Y 1,zL none 0 0,Y 3,zL A' 2 c'] 32)).heap[D.heap.size]?=some (.cells #[Y 2,Y 1,zL none 0 0,Y 3,zL A' 2 c'] 32 (0,0))):=heap_alloc_new _ _;have bf:D.heap.size<(D.alloc (.cells #[Y 2,Y 1,zL none 0 0,Y 3,zL A' 2 c'] 32)).heap.size:=U2;clear q b2 bx;generalize D.alloc (.cells #[Y 2,Y 1,zL none 0 0,Y 3,zL A' 2 c'] 32)=W2 at *;generalize D.heap.size=Bd at *;clear D;have M:=zH a6.out.field;have X:Hid (zC 72 #[.agg #[Y 2,Y 1,zL none 0 0]] W2 fun e w'=>(∃gb,e=.returned (.tuple (Dm gb))/\GFUp w' W2.heap.size gb 2 1 lT (logL lT (2^1)))/\Below W2.heap.size W2 w'):=(fnew_up 2 1 [] none 0 W2 (fun h=>absurd h U2) U1);go_wp2_with (refine wpList_load_mid rfl 29 (.tmp 23) rfl w.heap.size 0 rfl (Dl 2 1) _ M.out Tryz.underlying29 rfl fieldSize ?_);(with_reducible refine X.out.mono ?_);rintro e g ⟨⟨gb,rfl,hg⟩,hb3⟩;have a7:=zH (a6.out.grow hb3);have c7:=zH (bz.out.grow hb3);have cy:=zH ((hb3.block Bd bf).trans bp.out);have de:Bd<g.heap.size:=Nat.lt_of_lt_of_le bf hb3.size;have cw:=zH hg.at_;clear hb3 hg a6 bz bp X M bf;clear W2;have y3:g.cell? (zA w.heap.size 3)=some (Y 3):=a7.out.cell rfl;go_wp2_with fail;have bn:Hid (RelCj g (zL none 0 0) (Y ((0:Nat):Int)) g):=⟨0,[],U0,rfl,⟨rfl,Nat.zero_le _,World.ownsRow_nil _ _ _ _,fun i hi=>by simp at hi,fun i hi=>by simp at hi⟩,Below.refl _ _⟩;go_loopw [9,30] (fun v9 v30 wr=>RelCj g v9 v30 wr) (fun _ v30 _=>3-(intOf v30).toNat);case atStart=>exact bn.out
 case round =>
  obtain⟨j,bs,hj,rfl,cl,hb⟩:=hrel;have U:=zH cl;have H:=zH hb;clear cl hb bn y3;by_cases c:j<3
  . (have j0 : (0 : Int) <= (j : Int) := by omega);have j1:(j:Int)<3:=U0;have ds:IntKind.i64.wrap ((j:Int)+1)=(j:Int)+1:=IntWalk.i64_in _ U0;obtain ⟨cr,ag⟩:=cols_snoc c;have b1:=zH cr;have ai:=zH (cols_far c);obtain ⟨VO,co,e9,_⟩:=own_slice' U.out.out;rw [ag] at e9;subst e9;clear cr;obtain ⟨dj,ch,ao,ap,aq⟩:=qaF infoInts;have cx:=zH ch;have b3:=zH ao;have b6:=zH ap;have b7:=zH aq;clear ch ao ap aq;generalize colsT.take j=R at U b1 ai ag;have N:=zH ag;clear ag;go_upto_region 8 with fail;have q:Below wr.heap.size wr (wr.alloc (.cells #[zL none 0 0] 23)):=(Below.refl _ _).alloc (Nat.le_refl _) _;have a1:Hid ((wr.alloc (.cells #[zL none 0 0] 23)).heap[wr.heap.size]?=some (.cells [zL none 0 0].toArray 23 (0,0))):=heap_alloc_new _ _;have af:wr.heap.size<(wr.alloc (.cells #[zL none 0 0] 23)).heap.size:=U2;have au:Hid (∀ W,Below wr.heap.size (wr.alloc (.cells #[zL none 0 0] 23)) W->Below wr.heap.size wr W):=fun W hW=>q.trans hW;have a2:=zH U.out;have A:g.heap.size<=wr.heap.size:=H.out.size;have K:=zH (H.out.trans (q.mono A));clear q U H;generalize wr.alloc (.cells #[zL none 0 0] 23)=m at *;generalize aj:wr.heap.size=b at a1 af A au ⊢;have ad:=zH aj;clear aj;have y4:m.cell? (zA Bd 4)=some (zL A' 2 c'):=(K.out.cell (p:=(zA Bd 4)) de).trans (cell_of_row _ _ 4 _ _ _ cy.out);have c8:Hid (RowsAt m g.heap.size A' [[1,0,1],[0,1,1]]):=c7.out.rowsAt.keep K.out;have bo:Hid (RelCk m b j (Y ((0:Nat):Int)) m):=⟨0,zL none 0 0,U0,rfl,Num.nil _ _,a1.out,Below.refl _ _,Nat.le_refl _⟩;go_wp2_with fail;clear y4;go_loopw [36] (fun v36 wr=>RelCk m b j v36 wr) (fun v36 _=>2-(intOf v36).toNat);case atStart=>exact bo.out
    case round =>
     obtain⟨k,v,hk,rfl,al,P,hb,ah⟩:=hrel;have X:=zH al;have HC:=zH P;have H:=zH hb;clear al P hb bo a1;by_cases bd:k<2
     . (have k0 : (0 : Int) <= (k : Int) := by omega);have k1:(k:Int)<2:=U0;have dt:IntKind.i64.wrap ((k:Int)+1)=(k:Int)+1:=IntWalk.i64_in _ U0;obtain ⟨cq,be⟩:=rowI bd;obtain ⟨bR,oR,Ai,ci,rfl,dn,a9,bb⟩:=(c8.out.keep (H.out.mono A)).at_ (i:=k) bd;rw [cq] at a9 bb;rw [qaA,be] at a9;obtain ⟨bi,oi,rfl,dp,a8⟩:=bb.at_ (k:=j) (by rw [qaA,be];exact c);rw [qaC] at a8;have c9:=zH (col_step c bd);clear cq be bb;generalize (rowT k).getD j 0=x at *;go_upto_region 11 with fail;have ac:Hid (CkS b v bi (oi+j) x wr.drew):=⟨HC.out,a8⟩;have bu:Hid (Num wr.drew m.heap.size v ((colT j).take k)):=X.out.grow (Below.refl _ wr).drew;have bj:Hid (Below b m wr.drew):=H.out.drew;have ct:m.heap.size<=wr.drew.heap.size:=ah;(have di:((colT j).take k).length<=1000:=by rw [List.length_take];omega);refine qaS 7 7 (CkS b v bi (oi+j) x) [(0,0),(1,1),(1,2),(1,3),(0,4),(2,5),(2,6)] default U1 U1 (fun _ _ d _ _ h=>by cases d <;> exact h) ac.out ?_;generalize wr.drew=B at *;clear X HC H ah a9 a8;simp only [List.map_cons,List.map_nil,List.getD_cons_zero,List.getD_cons_succ];apply qbF rfl
       . intro V hV;have y:V.cell? (zA b 0)=some v:=cell_of_row _ _ 0 _ _ _ hV.1;go_simp;rfl
       go_simp
       iterate 3
        apply qaM rfl
        . intro V
          go_simp
          rfl
        go_simp
       apply qbF rfl
       . intro V hV;have y:=hV.2;go_simp;rfl
       go_simp;have z:Below B.heap.size B (B.alloc (.cells #[Y (x:Int)] 3)):=(Below.refl _ _).alloc (Nat.le_refl _) _;have aa:Hid (CkS b v bi (oi+j) x (B.alloc (.cells #[Y (x:Int)] 3))):=⟨(z.block b U0).trans ac.out.1,(z.cell (p:=(zA bi (oi+j))) (by show bi<B.heap.size;omega)).trans ac.out.2⟩;have a3:=zH (bu.out.grow z);have o:=zH (bj.out.trans (z.mono U0));have r:Hid ((B.alloc (.cells #[Y (x:Int)] 3)).heap[B.heap.size]?=some (.cells #[Y (x:Int)] 3 (0,0))):=heap_alloc_new _ _;have S:m.heap.size<=(B.alloc (.cells #[Y (x:Int)] 3)).heap.size:=Nat.le_trans ct z.size;apply qdM rfl (v:=zS B.heap.size 1 1) (w':=B.alloc (.cells #[Y (x:Int)] 3))
       . go_simp
       . exact aa.out
       go_simp;generalize B.heap.size=nb at *;generalize B.alloc (.cells #[Y (x:Int)] 3)=W5 at *;obtain⟨v',E,an,cm,cf⟩:=app_int x nb a3.out S di r.out;have O:Below m.heap.size W5 E:=(Below.refl _ _).grown cf S (fun i hi=>(World.ownsRow.lt a3.out i hi).1);have ab:Hid (CkS b v bi (oi+j) x E):=⟨(O.block b af).trans aa.out.1,(O.cell (p:=(zA bi (oi+j))) (by show bi<m.heap.size;omega)).trans aa.out.2⟩;have Z:=zH cm;rw[<- c9.out] at Z;have J:=zH (o.out.trans (O.mono (Nat.le_of_lt af)));have bg:m.heap.size<=E.heap.size:=Nat.le_trans S O.size;(have cj:((colT j).take (k+1)).length=k+1:=by rw[List.length_take,colT_len c];omega);obtain⟨VA,C,e6⟩:=Z.out.slice;rw[cj] at e6;subst e6;clear cj;refine qdM rfl (exec_append (.tmp 40) (.tmp 45) 23 rfl rfl rfl an) ab.out ?_;go_simp;clear an cm cf O z aa a3 o r ac bu bj;refine qbH ?_;show wpList _ _ _ _ _ _;have yb:E.cell? (zA b 0)=some v:=cell_of_row _ _ 0 _ _ _ ab.out.1;(have fb:E.frozen? (zA b 0)=false:=by simp[World.frozen?,ab.out.1]);have cz:=zH (heap_set_same ab.out.1 0 (zL VA (k+1) C));have c6:Hid (Num (E.setCell (zA b 0) (zL VA (k+1) C)) m.heap.size (zL VA (k+1) C) ((colT j).take (k+1))):=World.ownsRow.kept Z.out (grown_set E (zA b 0) _) (.inr (fun e=>by have:=(World.ownsRow.lt Z.out b e).1;omega));have ar:=zH (J.out.setCell (p:=(zA b 0)) (Nat.le_refl _) (zL VA (k+1) C));(have dh:m.heap.size<=(E.setCell (zA b 0) (zL VA (k+1) C)).heap.size:=by simpa using bg);go_wp2_with fail;go_roundw;case rel=>exact⟨k+1,_,U0,gn,c6.out,cz.out,ar.out,dh⟩
       case measure=>first|(simp[intOf];done)|(simp[intOf];omega)
     . (obtain rfl : k = 2:=by omega);rw[colT_all c] at X;obtain⟨p,hp,dd,cn⟩:=colT_ix c;have f:=colT_len c;obtain⟨VA,C,ev⟩:=X.out.slice;rw[f] at ev;subst ev;(have ae:Hid (IntsAt wr wr.heap.size VA (nz (colT j))):=by have h:=X.out;unfold Num at h;rw[f] at h;exact(ints_of_own h f).ints);have a0:=zH (indexnz_c 100 columns1_c (enters_of Tryz.func100 U1 rfl) (colT j) VA C wr ae.out U0);rw[f,hp] at a0;have yc:wr.cell? (zA b 0)=some (zL VA 2 C):=cell_of_row _ _ 0 _ _ _ HC.out;obtain⟨bv,ov,rfl,dq,ce⟩:=ae.out.at_ (k:=p) (by rw[qaA,f];exact dd);rw[qaC,cn] at ce;have p0:(0:Int)<=(p:Int):=U0;have p1:(p:Int)<2:=U0;have p3:¬(p:Int)<0:=U0;have aw:=zH (K.out.trans (H.out.mono A));have ay:=zH ((cw.out.keep aw.out).more aw.out.size);have az:=zH (inv_c 1 gb 2 1 wr.heap.size _ lT wr ft_T ay.out U0 U0);rw[inv_T] at az;clear hp cn X;go_wp2_with fail;refine a0.out.mono ?_;rintro e w' ⟨rfl,rfl⟩;clear a0;go_wp2_with fail;refine az.out.mono ?_;rintro e w' ⟨rfl,n,rfl⟩;clear az ce;have dl:(wr.drewN n).cell? (zA b 0)=some (zL (some (zA bv ov)) 2 C):=yc;have a5:=zH (scale_c 1 gb 2 1 _ lT (colT j) (some (zA bv ov)) C (wr.drewN n) ft_T (ay.out.keep (qaB (Below.refl _ _) n)) U0 (colT_lt c) (ae.out.keep (qaB (Below.refl _ _) n)) U0);rw[scale_T c,f] at a5;have bq:Hid ((wr.drewN n).heap[b]?=some (.cells [zL (some (zA bv ov)) 2 C].toArray 23 (0,0))):=HC.out;have bm:Hid (Below b m (wr.drewN n)):=qaB H.out n;have cd:b<(wr.drewN n).heap.size:=Nat.lt_of_lt_of_le af ah;clear ae ay aw HC H ah;generalize wr.drewN n=wn at *;go_wp2_with fail;refine a5.out.mono ?_;rintro e w4 ⟨rfl,hr4,hb4⟩;have T:=zH ((hb4.block b cd).trans bq.out);have a4:=zH hr4;have bh:=zH (bm.out.trans (hb4.mono (Nat.le_of_lt cd)));have dg:=a4.out.lt.2;clear hr4 hb4 a5 bq bm yc dl;generalize wn.heap.size=s at *;clear wn;have y5:w4.cell? (zA b 0)=some (zL (some (zA bv ov)) 2 C):=cell_of_row _ _ 0 _ _ _ T.out;(have f5:w4.frozen? (zA b 0)=false:=by simp[World.frozen?,T.out]);go_upto_region 18 with fail;have r:=zH (heap_set_same T.out 0 (zS s 2 2));have L:=zH (a4.out.far (p:=(zA b 0)) (by show s≠b;omega) (zS s 2 2));have o:=zH (bh.out.setCell (p:=(zA b 0)) (Nat.le_refl _) (zS s 2 2));clear y5 f5 T a4 bh dg;generalize w4.setCell (zA b 0) (zS s 2 2)=l at *;clear w4;have I:Hid (∀W,Below b l W->LGrid W g.heap.size (zL VO j co) R bs R.length):=fun W hW=>a2.out.grow (by rw[ad.out];exact au.out W (o.out.trans hW));have S:g.heap.size<=l.heap.size:=Nat.le_trans K.out.size o.out.size;have cg:=L.out.lt;(have b8:RowsAt l l.heap.size VO (nzs R):=by have h:=I.out l (Below.refl _ _);rw[<- N.out] at h;exact h.up.rowsAt);have ax:=zH (containsfar_c (nzs R) (nz (colT j)) VO (zO s) co 2 b l b8 (by rw[qaA,f];exact cell_of_row _ _ 0 _ _ _ r.out) (L.out.ints L.out.lt.2) (by rw[nzs_len,N.out];omega) ai.out);rw[nzs_len,N.out] at ax;clear b8;go_wp2_with fail;refine ax.out.mono ?_;rintro e w' ⟨rfl,n2,rfl⟩;clear ax;have yc:(l.drewN n2).cell? (zA b 0)=some (zS s 2 2):=cell_of_row _ _ 0 _ _ _ r.out;have av:Hid (Below b l (l.drewN n2)):=qaB (Below.refl _ _) n2;(have b0:Hid (Row (l.drewN n2) b s 2 (nz ((R++[colT j]).getD R.length []))):=by show Row _ _ _ _ _;rw[getD_snoc_eq R (colT j) []];exact(L.out.below (qaB (Below.refl l.heap.size l) n2) cg.2).base U0);have J:Hid (Below b m (l.drewN n2)):=o.out.trans av.out;have br:=zH ((I.out _ av.out).wide (colT j));have bg:g.heap.size<=(l.drewN n2).heap.size:=S;have dm:b<(l.drewN n2).heap.size:=Nat.lt_of_le_of_lt U0 cg.2;have db:(R++[colT j]).getD R.length []=colT j:=getD_snoc_eq R (colT j) [];clear o r L av I;generalize l.drewN n2=E at *;(have bw:Hid ((E.alloc (.cells #[zS s 2 2] 23)).ownsRow g.heap.size 23 1 (zL VO j co) j ((List.range j).map (hdr (R++[colT j]) bs))):=by have h:=br.out.out;rw[N.out] at h;exact World.ownsRow.alloc h _);go_wp2_with (at_builtin;refine wpList_append_own_at _ rfl (.tmp 72) (.tmp 74) 30 rfl g.heap.size 23 dj _ 1 24 Tryz.underlying30 cx.out b3.out b6.out b7.out rfl dc (zL VO j co) j ((List.range j).map (hdr (R++[colT j]) bs)) rfl bw.out (zA E.heap.size 0) 1 1 [zS s 2 2] rfl rfl ?c1 ?c2 ?c3 ?c4 ?c5 ?_);(try case c1=>exact World.news_of_block (cs:=#[zS s 2 2]) (t:=23) (fr:=(0,0)) (heap_alloc_new E _));case c2=>first|rfl|(intro u hu;simp at hu;subst hu;rfl)
       case c3=>unfold maxLen;omega
       case c4=>omega
       case c5=>first|omega|(simp;omega)|assumption
       intro v' w7 Q ba _ b9;have bt:=zH (a2.out.wide (colT j));have ak:∀i,(Value.slice VO j co).ownBlock=some i->g.heap.size<=i:=fun i hi=>(World.ownsRow.lt a2.out.out i hi).1;(have da:Hid (LGrid w7 g.heap.size v' (R++[colT j]) (bs++[(s,2)]) (R.length+1)):=by refine bt.out.step U2 (by rw[ad.out];exact A) (by rw[ad.out];exact au.out _ J.out) (by rw[ad.out];exact b0.out) ?_ ba (by simpa using b9);rw[db,f,N.out];exact Q);have ar:Hid (Below g.heap.size g w7):=((K.out.trans (J.out.mono A)).alloc bg _).grown ba so (fun i hi=>ak i hi);clear Q ba b9 bw br J b0 ak bt;go_wp2_with fail;go_roundw;case rel=>exact⟨j+1,bs++[(s,2)],U0,gn,by rw[b1.out,List.length_append];exact da.out,ar.out⟩
       case measure=>first|(simp[intOf];done)|(simp[intOf];omega)
  . go_wp2_with fail;go_ret;exact⟨rfl,a7.out.below.trans (H.out.mono a7.out.below.size)⟩
abbrev Elt(q:Nat):={ x:Nat // x<q }
def eltV(q:Nat)(x:Elt q):Array Value:=#[Y (x.1:Int)]
theorem elems_stops(q C B:Nat)(K:q<=256)(w:World)(H:C<w.heap.size)(I:B<w.heap.size)(D:w.cell? (zA C 0)=some (zP B))(E:w.cell? (zA B 3)=some (Y (q:Int))):
 SeqStopsK Fence.wide 2 Tryz.prog 236 #[zP C] (eltV q) (fun _ _=>True) (fun _=>True) (fun _=>True) q w:=by
 intro l J x W h r f i o;have c1:W.cell? (zA C 0)=some (zP B):=(h.cell (p:=(zA C 0)) H).trans D;have c2:W.cell? (zA B 3)=some (Y (q:Int)):=(h.cell (p:=(zA B 3)) I).trans E;have n:=zH i;clear i D E r f;refine callsIn_of_wp Tryz.func236 rfl trivial ?_;simp only[Tryz.ntmps236,List.size_toArray,List.length_cons,List.length_nil,Nat.reduceAdd,Nat.reduceSub,Array.replicate_succ,Array.replicate_zero,List.push_toArray,List.append_toArray,List.nil_append,List.cons_append];gi_wp2;gi_loopw [8] (fun v8 wr=>∃(k:Nat)(b:List (Elt q)),k<=q/\v8=Y k/\b.length=k/\J b wr) (fun v8 _=>q-(intOf v8).toNat);case atStart=>exact⟨0,[],U0,rfl,rfl,o⟩
 case round =>
  obtain⟨k,b,z,rfl,t,j⟩:=hrel;by_cases c:k<q
  . obtain ⟨y,m,d,g,v,s⟩ := n.out b ⟨k,c⟩ wr j U0;dsimp only [eltV] at v;have A:(k:Int)<(q:Int):=U0;have u:IntKind.i64.wrap ((k:Int)+1)=(k:Int)+1:=IntWalk.i64_in _ U0;gi_wp2;refine s.mono ?_;rintro e W3 (⟨rfl,hJ3,_⟩ | ⟨rfl,hJx3⟩)
    . gi_wp2;go_roundw;case rel=>exact⟨k+1,b++[⟨k,c⟩],U0,gn,by simp[t],hJ3⟩
      case measure=>exact mE
    . gi_wp2;refine bodyPost_ret (results_none rfl _ _ _) rfl ?_;exact⟨⟨_,rfl⟩,.inr ⟨_,trivial,hJx3⟩⟩
  . (obtain rfl:k=q:=by omega);gi_wp2;go_end0;exact⟨⟨_,rfl⟩,.inl ⟨_,trivial,j⟩⟩
theorem elements_f(v:Value)(w:World)(c:v=.pointer none\/∃b,v=zP b):
 zC 206 #[v] w fun e w'=>e=.returned (.func (.func 236) #[] #[zP w.heap.size])/\w'=w.alloc (.cells #[v] 100):=by
 rcases c with rfl|⟨b,rfl⟩
 . go_enter Tryz.func206,Tryz.ntmps206;go_wp2_with fail;go_ret;exact⟨rfl,rfl⟩
 . go_enter Tryz.func206,Tryz.ntmps206;go_wp2_with fail;go_ret;exact⟨rfl,rfl⟩
theorem keepsOthers_drewN(W:World)(n:Nat):KeepsOthers W (W.drewN n):=⟨Nat.le_refl _,fun _ _ h _=>h⟩
theorem Num.other{w w2:World}{B:Nat}{v:Value}{l:List Nat}{row:Option Nat}(h:Num w B v l)(d:w.grownBy w2 row)(c:∀b,v.ownBlock=some b->row≠some b):Num w2 B v l:=
 World.ownsRow.kept h d (by
  cases hv:v.ownBlock with
  |none=>exact .inl rfl
  |some b=>exact .inr (fun e=>c b hv e.symm))
theorem Num.cells{w:World}{B:Nat}{v:Value}{l:List Nat}(h:Num w B v l){b:Nat}(f:v.ownBlock=some b):∃cs fr,w.heap[b]?=some (.cells cs 3 fr)/\B<=b:=by
 rcases h.2 with⟨e,_⟩|⟨g,c,cur,e,_,d,_⟩
 . rw[e] at f;cases f
 . subst e;injection f with f;subst f;exact⟨_,_,d,(World.ownsRow.lt h g rfl).1⟩
theorem Num.ne{w:World}{B:Nat}{v:Value}{l:List Nat}(h:Num w B v l){b g:Nat}(j:v.ownBlock=some b){cs:Array Value}{t:TypeId}{fr:Nat × Nat}(i:w.heap[g]?=some (.cells cs t fr))(ht:t≠3):b≠g:=fun e=>by
 subst e
 obtain⟨d,f,c,_⟩:=h.cells j
 rw[i] at c
 injection c with c
 injection c with _ c _
 exact ht c
theorem Row.same{w w':World}{B g c:Nat}{zs:List Int}(h:Row w B g c zs)(j:w'.heap[g]?=w.heap[g]?):Row w' B g c zs:=by obtain⟨cur,b,i,d,f⟩:=h.cur;exact f w' cur zs (j.trans b) rfl rfl d
theorem rowNe{w:World}{B:Nat}{row:Option Nat}(g:∀r,row=some r->B<=r/\∃o:Obj,w.heap[r]?=some o/\o.isCells=false){b:Nat}{cs:Array Value}{t:TypeId}{fr:Nat × Nat}(f:w.heap[b]?=some (.cells cs t fr)):row≠some b:=fun e=>by
 obtain⟨_,o,c,d⟩:=g b e
 rw[f] at c
 injection c with c
 subst c
 cases d
structure RtI (w:World) (B2 B6 B7 gb gs:Nat) (O:Ops) (v:List Nat) (q n:Nat) (W:World):Prop where
 b2:W.cell? (zA B2 0)=some (zP gb)
 b6:W.heap[B6]?=some (.cells #[zS gs v.length v.length] 23 (0,0))
 row:Row W w.heap.size gs v.length (nz v)
 out:∃(u:Value)(rs:List Nat),W.heap[B7]?=some (.cells #[u] 23 (0,0))/\Num W B6 u rs/\(∀r∈rs,r<q/\evN O v r=0)/\rs.length<=n
 low:Below w.heap.size w W
theorem RtI.mono{w:World}{B2 i j k l:Nat}{O:Ops}{v:List Nat}{q n m:Nat}{W:World}(h:RtI w B2 i j k l O v q n W)(o:n<=m):RtI w B2 i j k l O v q m W:=by obtain⟨u,f,b,c,d,g⟩:=h.out;exact⟨h.b2,h.b6,h.row,⟨u,f,b,c,d,U0⟩,h.low⟩
theorem RtI.drewN{w:World}{B2 i j l m:Nat}{O:Ops}{v:List Nat}{q n:Nat}{W:World}(h:RtI w B2 i j l m O v q n W)(k:Nat):RtI w B2 i j l m O v q n (W.drewN k):=by obtain⟨u,g,b,c,d,f⟩:=h.out;exact⟨h.b2,h.b6,h.row.below (qaB (Below.refl _ _) k) h.row.lt.2,⟨u,g,b,c.grow (qaB (Below.refl _ _) k),d,f⟩,qaB h.low k⟩
theorem RtI.own{w:World}{B2 t x y z:Nat}{O:Ops}{v:List Nat}{q:Nat}{B:Nat}(A:w.heap.size<=B):OwnFrom B (fun(pre:List (Elt q)) W=>RtI w B2 t x y z O v q pre.length W):=fun s W W' row h hg hr=>by
 have d:∀r,row=some r->∃o:Obj,W.heap[r]?=some o/\o.isCells=false:=fun r e=>(hr r e).2
 obtain⟨cur,j,_⟩:=h.row.cur
 obtain⟨u,m,c,f,g,i⟩:=h.out
 refine⟨cell_kept h.b2 hg d,(hg.block t (block_lt h.b6) (fun e=>rowNe hr h.b6 e.symm)).trans h.b6,h.row.grown hg (fun e=>rowNe hr j e.symm),⟨u,m,(hg.block x (block_lt c) (fun e=>rowNe hr c e.symm)).trans c,f.other hg (fun b hb=>?_),g,i⟩,h.low.grown hg h.low.size (fun k e=>Nat.le_trans A (hr k e).1)⟩
 obtain⟨n,p,l,_⟩:=f.cells hb
 exact rowNe hr l
def RootsPost(w:World)(O:Ops)(v:List Nat)(q:Nat)(e:Ending)(w':World):Prop:=
 (∃(VA:Option Addr)(rs:List Nat)(ck:Nat),e=.returned (.tuple #[zL VA rs.length ck,Y 0])/\IntsUp w' w.heap.size VA (nz rs)/\∀r∈rs,r<q/\evN O v r=0)/\Below w.heap.size w w'
theorem roots_c(gb p m:Nat)(md l v:List Nat)(A:Option Addr)(c:Nat)(w:World)(hF:FT p m md l)(hG:GFAt w w.heap.size gb p m l (logL l (p ^ m)))(hv:∀ x∈v,x<p ^ m)(hA:IntsAt w w.heap.size A (nz v))(h0:0<v.length)(hl:v.length<=1000)(br:v.getD (v.length-1) 0≠0):
 zC 204 #[zP gb,zL A v.length c] w (RootsPost w (opsT p m l) v (p^m)):=by
 have bi:gb<w.heap.size:=hG.1;have a7:=hF.small.q;have HG:=zH hG;have HA:=zH hA;have aq:Hid (∀W,Below w.heap.size w W->zC 235 #[zP gb,zL A v.length c] W fun e w'=>e=.returned (zS W.heap.size v.length v.length)/\Row w' W.heap.size W.heap.size v.length (nz v)/\Below W.heap.size W w'):=fun W hW=>canon_keep gb p m l _ v A c W ((hG.keep hW).more hW.size) hv ((hA.keep hW).more hW.size) h0 hl br
 have ad:Hid (∀(W:World)(x s:Nat),x<p^m->Below w.heap.size w W->Row W w.heap.size s v.length (nz v)->zC 162 #[zP gb,zS s v.length v.length,Y x] W (Quiet (Y ((evN (opsT p m l) v x:Nat):Int)) W)):=fun W x s hx hW T=>
  eval_c gb p m W.heap.size md l v x _ _ W hF ((hG.keep hW).more hW.size) hv hx (T.ints T.lt.2) hl
 have HO:Hid (∀W,Below w.heap.size w W->W.cell? (zA gb 3)=some (Y ((p^m:Nat):Int))):=fun W hW=>by obtain⟨_,_,_,_,_,_,_,_,h3,_,_,_,_⟩:=(hG.keep hW).cells;exact h3
 clear hG hA hv br hF;have bo:¬((v.length:Int)=0):=U0;have bn:((v.length:Int)==0)=false:=beq_false_of_ne U0;generalize opsT p m l=O at *;generalize p^m=q at *;refine(callsIn_wide (n:=3)).1 (callsIn_of_wp_marks Tryz.func204 rfl trivial (wpIn_wide.2 ?_));simp only[Tryz.ntmps204,List.size_toArray,List.length_cons,List.length_nil,Nat.reduceAdd,Nat.reduceSub,Array.replicate_succ,Array.replicate_zero,List.push_toArray,List.append_toArray,List.nil_append,List.cons_append];have HX:=zH (bx_new w [zP gb] 100);go_upto_region 1 with fail;generalize w.alloc (.cells #[zP gb] 100)=W0 at *;have y2:W0.cell? (zA w.heap.size 0)=some (zP gb):=HX.out.cell rfl;go_wp2_with fail;(with_reducible refine(aq.out W0 HX.out.below).mono ?_);rintro e L ⟨rfl,hrow,hb1⟩;have az:=zH (HX.out.grow hb1);have ai:=zH (hrow.base (B':=w.heap.size) HX.out.below.size);have bj:w.heap.size<W0.heap.size:=HX.out.2.2;have bm:W0.heap.size<L.heap.size:=hrow.lt.2;clear hrow hb1 y2;generalize W0.heap.size=s at *;clear HX aq;clear W0;go_upto_region 2 with fail;have af:Hid ((L.alloc (.cells #[zS s v.length v.length] 23)).heap[L.heap.size]?=some (.cells #[zS s v.length v.length] 23 (0,0))):=heap_alloc_new _ _;have an:Below L.heap.size L (L.alloc (.cells #[zS s v.length v.length] 23)):=(Below.refl _ _).alloc (Nat.le_refl _) _;have a0:=zH (az.out.grow an);have aj:=zH (ai.out.below an ai.out.lt.2);have a8:L.heap.size<(L.alloc (.cells #[zS s v.length v.length] 23)).heap.size:=U2;clear an az ai;generalize L.alloc (.cells #[zS s v.length v.length] 23)=d at *;generalize L.heap.size=z at *;clear L;have y6:d.cell? (zA z 0)=some (zS s v.length v.length):=cell_of_row _ _ 0 _ _ _ af.out;go_upto_region 5 with fail;clear y6;have X:Below d.heap.size d (d.alloc (.cells #[zL none 0 0] 23)):=(Below.refl _ _).alloc (Nat.le_refl _) _;have av:Hid ((d.alloc (.cells #[zL none 0 0] 23)).heap[d.heap.size]?=some (.cells #[zL none 0 0] 23 (0,0))):=heap_alloc_new _ _;have al:=zH (a0.out.grow X);have ak:=zH (aj.out.below X aj.out.lt.2);have aa:=zH ((X.block z a8).trans af.out);have a9:d.heap.size<(d.alloc (.cells #[zL none 0 0] 23)).heap.size:=U2;clear X a0 aj af;generalize d.alloc (.cells #[zL none 0 0] 23)=w3 at *;generalize d.heap.size=g at *;clear d;have y2:w3.cell? (zA w.heap.size 0)=some (zP gb):=al.out.cell rfl;have ar:=zH (elements_f (zP gb) w3 (.inr ⟨gb,rfl⟩));go_wp2_with fail;(with_reducible refine ar.out.mono ?_);rintro e Z ⟨rfl,hw4⟩;have I:Below w3.heap.size w3 Z:=by rw[hw4];exact(Below.refl _ _).alloc (Nat.le_refl _) _
 have ag:Hid (Z.cell? (zA w3.heap.size 0)=some (zP gb)):=by rw[hw4];exact cell_of_row _ _ 0 _ _ _ (heap_alloc_new _ _)
 have ba:w3.heap.size<Z.heap.size:=by rw[hw4];simp
 have U:=zH (al.out.grow I);have ae:Hid (RtI w w.heap.size z g gb s O v q 0 Z):=⟨U.out.cell rfl,(I.block z U0).trans aa.out,ak.out.below I ak.out.lt.2,⟨zL none 0 0,[],(I.block g a9).trans av.out,Num.nil _ _,fun r T=>(by cases T),Nat.le_refl _⟩,U.out.below⟩;have ah:=zH (HO.out Z U.out.below);clear hw4 I ar y2 al ak aa av U;have a3:w.heap.size<=Z.heap.size:=U0;generalize w3.heap.size=B8 at *;clear w3;go_upto_region 6 with fail
 refine(wpIn_wide (n:=3)).1 (wpIn_rangeFunc_ownF (F:=Fence.wide) (n:=3) (P:=Tryz.prog) (α:=Elt q) (w:=Z) (gf:=236) (lb:=#[zP B8]) rfl U0 rfl trivial (enters_of Tryz.func236 U1 rfl)
  (encs:=eltV q) (Kp:=fun _ _=>True) (S:=fun _=>True) (Sp:=fun _=>True) (N:=q) (w0:=Z) (elems_stops q B8 gb a7 Z ba U0 ag.out ah.out) (fun _ _=>trivial) (fun _ _ _ _ _ _ _ _=>trivial) (Below.refl _ _) (fun _=>rfl)
  (fun ap W=>RtI w w.heap.size z g gb s O v q ap.length W) (fun _ _ _=>False) (RtI.own a3) (fun _ _ _ _ _ h _ _=>h.elim) ae.out (fun x=>{ tmps:=#[zP gb,zL A v.length c,zP w.heap.size,undef,zL none 0 0,Y 0,zP z,zP g,Y (x.1:Int),zP gb,zL A v.length c,zS s v.length v.length,zS s v.length v.length,Y (v.length:Int),.bool false,zP gb,.func (.func 236) #[] #[zP B8],Y (x.1:Int),undef,undef,undef,undef,undef,undef,undef,undef,undef,undef],defers:=[] }) ?assign ?body ?done ?stop)
 case assign=>intro l x W K hK;have a1:∀(ρ:Operand->Value)(o:Oper),(∀c,o.op≠.defer c)->Oper.semAt (some l) ρ o=execOp ρ o:=fun ρ o h=>Oper.semAt_some l ρ o h;simp only[eltV];gi_wp2;exact hK
 case body =>
  intro l ap x W R bg;have a1:∀(ρ:Operand->Value)(o:Oper),(∀c,o.op≠.defer c)->Oper.semAt (some l) ρ o=execOp ρ o:=fun ρ o h=>Oper.semAt_some l ρ o h;obtain⟨x,hx⟩:=x;have HC:=zH (ad.out W x s hx R.low R.row);have HI:=zH R;have b2:=R.b2;have b6:W.cell? (zA z 0)=some (zS s v.length v.length):=cell_of_row _ _ 0 _ _ _ R.b6;obtain⟨y,hy⟩:∃y,evN O v x=y:=⟨_,rfl⟩;rw[hy] at HC;have HY:=zH hy;clear R hy ad HO ah ae ag HG HA;gi_wp2;(try refine⟨trivial,?_⟩);refine(CallsIn.inRound l (callsIn_wide.2 HC.out)).mono ?_;rintro e B ⟨rfl,n,rfl⟩;have f:=zH (HI.out.drewN n);have aw:Hid (KeepsOthers W (W.drewN n)):=keepsOthers_drewN W n;clear HI HC b2 b6;generalize W.drewN n=B at *;by_cases bc:y=0
  . subst bc;obtain ⟨i0,a5,bd,be,bf⟩:=qaF infoInt;obtain ⟨u,i,V,C,h4,h5⟩:=f.out.out;obtain ⟨M,Q,hu⟩:=C.slice;rw [hu] at V C;clear hu u;have y7:B.cell? (zA g 0)=some (zL M i.length Q):=cell_of_row _ _ 0 _ _ _ V;have H1:=zH V;have H2:Hid (Num (B.alloc (.cells #[Y (x:Int)] 3)) z (zL M i.length Q) i):=World.ownsRow.alloc C _;have E:Hid (∀ b,(Value.slice M i.length Q).ownBlock=some b->b≠g/\b≠z/\z<=b):=fun b hb=>⟨C.ne hb V dc,C.ne hb f.out.b6 dc,by obtain ⟨_,_,_,h⟩:=C.cells hb;exact h⟩;have H4:=zH h4;have bb:g<B.heap.size:=block_lt V;clear V C h4;gi_wp2_with (gi_at_builtin;refine wpListIn_append_own (B.alloc (.cells #[Y (x:Int)] 3)) rfl (.tmp 23) (.tmp 25) 23 rfl z 3 i0 _ 1 8 Tryz.underlying23 a5 bd be bf rfl dc (zL M i.length Q) i.length _ rfl H2.out (zA B.heap.size 0) 1 1 [Y (x:Int)] rfl rfl (World.news_of_block (cs:=#[Y (x:Int)]) (t:=3) (fr:=(0,0)) (heap_alloc_new _ _)) sc U3 U0 so ?_;intro v' d J ao a6;obtain ⟨g',H,rfl⟩:=ownsRow_succ J;have au:=zH ao;have ab:Hid (Num d z (zS g' (i.length+1) H) (i++[x])):=Num.step J;have ax:Hid (∀ b,b<B.heap.size->(Value.slice M i.length Q).ownBlock≠some b->d.heap[b]?=B.heap[b]?):=fun b hb br=>(ao.block b so (fun e=>br e.symm)).trans (heap_alloc_old _ _ hb);have H7:Hid (d.heap[g]?=some (.cells #[zL M i.length Q] 23 (0,0))):=(ax.out g bb (fun e=>(E.out _ e).1 rfl)).trans H1.out;have bq:d.cell? (zA g 0)=some (zL M i.length Q):=cell_of_row _ _ 0 _ _ _ H7.out;have f7:d.frozen? (zA g 0)=false:=(by simp [World.frozen?,H7.out]);clear J ao a6 y7);have ac:Hid (∀ b,b<B.heap.size->b≠g->(Value.slice M i.length Q).ownBlock≠some b->(d.setCell (zA g 0) (zS g' (i.length+1) H)).heap[b]?=B.heap[b]?):=fun b hb h7 br=>(Below.heap_setCell d (zA g 0) _ b h7).trans (ax.out b hb br);obtain ⟨cg,bh,_⟩:=f.out.row.cur;have a2:w.heap.size<=B.heap.size:=f.out.low.size;refine ⟨aw.out.trans ((KeepsOthers.alloc B _).trans ((KeepsOthers.of_grownBy au.out (fun j o e ho=>?_)).trans (KeepsOthers.setCell _ _ _))),trivial,⟨?_,?_,?_,⟨zS g' (i.length+1) H,i++[x],heap_set_same H7.out 0 _,?_,?_,?_⟩,?_⟩⟩
    . obtain⟨cs,fr,hh,_⟩:=H2.out.cells e;rw[hh] at ho;injection ho with ho;subst ho;rfl
    . exact(World.cell?_of_block (a:=(zA w.heap.size 0)) (ac.out w.heap.size U0 U0 (fun e=>by have:=(E.out _ e).2.2;omega))).trans f.out.b2
    . exact(ac.out z U0 U0 (fun e=>(E.out _ e).2.1 rfl)).trans f.out.b6
    . exact f.out.row.same (ac.out s U0 U0 (fun e=>by have:=(E.out _ e).2.2;omega))
    . exact ab.out.other (grown_set d (zA g 0) _) (fun b hb e=>ab.out.ne hb H7.out dc (by injection e with e;exact e.symm))
    . intro r T;rcases List.mem_append.1 T with T|T
      . exact H4.out r T
      . (obtain rfl:r=x:=by simpa using T);exact⟨hx,HY.out⟩
    . simp;omega
    . exact((f.out.low.alloc a2 _).grown au.out so (fun k e=>by have:=(E.out _ e).2.2;omega)).setCell (p:=(zA g 0)) (by show _<=g;omega) _
  . have bp:((y:Int)==0)=false:=beq_false_of_ne U0;gi_wp2;exact⟨aw.out,trivial,f.out.mono U2⟩
 case done=>
  intro D xs W hD _ R hd;obtain⟨u,i,V,C,h4,h5⟩:=R.out;have y7:W.cell? (zA g 0)=some u:=cell_of_row _ _ 0 _ _ _ V
  have a4:Hid (Num (W.putObj D (.deferred none)) z u i):=C.other (grownBy_putObj' W D _) (fun b hb e=>by
   injection e with e
   subst e
   obtain⟨cs,fr,hh,_⟩:=C.cells hb
   rw[hd] at hh
   cases hh)
  obtain⟨M,Q,rfl⟩:=C.slice;have ay:Hid (Below w.heap.size w (W.putObj D (.deferred none))):=below_putObj R.low U0 _;have H4:=zH h4;clear R V C h4 ad HO ah ae ag HG HA;go_wp2_with fail;refine⟨U2,.inl ⟨_,_,rfl,run_takeDeferred hd,?_⟩⟩;exact⟨_,results_tmp2 rfl _ _ _,⟨M,i,Q,rfl,a4.out.up.lower U0,H4.out⟩,ay.out⟩
 case stop=>intro D c ap W _ _ h _;exact h.elim
theorem fnew_full(p m:Int)(mod:List Int)(A:Option Addr)(c:Nat)(w:World)(b:IntsAt w w.heap.size A mod)(d:mod.length<=9223372036854775807):
 zC 72 #[Ch p m A mod.length c] w fun e w'=>((fieldOK p m mod=false/\e=.returned (.tuple #[.pointer none,Y 1]))\/(fieldOK p m mod=true/\∃gb,e=.returned (.tuple (Dm gb))/\w.heap.size<=gb/\GFM w' w'.heap.size gb p.toNat m.toNat mod (lOf p m mod) (logL (lOf p m mod) (p.toNat^m.toNat))))/\Below w.heap.size w w':=by
 cases hok:fieldOK p m mod
 . exact(fnew_no p m mod A c w b d hok).mono fun e w' ⟨h1,h2⟩=>⟨.inl ⟨rfl,h1⟩,h2⟩
 . exact(fnew_any p m mod A c w b hok).mono fun e w' ⟨h1,h2⟩=>⟨.inr ⟨rfl,h1⟩,h2⟩
def RootOk(p m:Int)(mod:List Int)(n x:Int):Prop:=fieldOK p m mod=true/\∃x':Nat,x=(x':Int)/\x'<p.toNat^m.toNat/\x'≠0/\n=((ordT (logL (lOf p m mod) (p.toNat^m.toNat)) (p.toNat^m.toNat) x':Nat):Int)
structure Bx4 (w:World) (fs:List Value) (n x z:Int) (W:World):Prop where
 k2:W.heap[w.heap.size]?=some (.cells fs.toArray 29 (0,0))
 k3:W.heap[w.heap.size+1]?=some (.cells #[Y n] 3 (0,0))
 k4:W.heap[w.heap.size+1+1]?=some (.cells #[Y x] 3 (0,0))
 k5:W.heap[w.heap.size+1+1+1]?=some (.cells #[Y z] 41 (0,0))
 low:Below w.heap.size w W
structure RotI (w:World) (fs:List Value) (n:Int) (B6 gb:Nat) (w2 W:World):Prop where
 bx:Bx4 w fs n 0 0 W
 b6:W.heap[B6]?=some (.cells #[zP gb] 100 (0,0))
 low:Below w2.heap.size w2 W
theorem gorder_c(c B p m:Nat)(l f:List Nat)(w:World)(d:GFAt w B c p m l f):
 zC 120 #[zP c] w fun e w'=>e=.returned (Y ((p^m:Nat):Int))/\w=w':=by obtain⟨_,_,_,_,_,_,_,_,b,_,_,_,_⟩:=d.cells;generalize p^m=q at *;clear d;go_enter Tryz.func120,Tryz.ntmps120;go_wp2_with fail;go_ret;exact⟨rfl,rfl⟩
theorem digits_c(x N p m B:Nat)(l R:List Nat)(w:World)(O:Small p m)(P:GFAt w B N p m l R)(Q:B<=w.heap.size)(S:x<p ^ m):
 zC 205 (Db N x) w fun e w'=>(∃g,e=.returned (zS g m m)/\Row w' w.heap.size g m (nz (digs p m x)))/\Below w.heap.size w w':=by
 have n:Hid (∀W,LSt w W->zC 158 (Db N x) W fun e w'=>e=.returned (Y x)/\W=w'):=fun W o=>in_c x N p m B l R W (P.keep (Below.mono o Q)) S;have f:Hid (∀W,LSt w W->W.cell? (zA N 0)=some (Y (p:Int))/\W.cell? (zA N 1)=some (Y (m:Int))):=fun W o=>by obtain⟨_,A,K,C,H,D,I,E,s,_,_⟩:=P.keep (Below.mono o Q);exact⟨cell_of_row _ _ 0 _ _ _ s,cell_of_row _ _ 1 _ _ _ s⟩
 have J:=O.q;have v:=O.p1;have y:=O.p2;have u:=O.m2;have j:Hid (∀W:World,zC 199 #[Y x,Y p,Y m] W fun e w'=>e=.returned (zS W.heap.size m m)/\Row w' W.heap.size W.heap.size m (nz (digs p m x))/\Below W.heap.size W w'):=fun W=>qdD x p m W U0 U0 U0 U0;have b:Hid (LSt w w.drew):=(Below.refl _ _).drew;clear P O;go_enter Tryz.func205,Tryz.ntmps205;go_upto_region 1 with fail;refine qbM 14 (LSt w) [(true,0),(true,1),(true,3),(true,4),(true,5),(true,6),(true,7),(true,8),(true,9),(true,10),(true,11),(true,12),(false,2),(false,13)] default U1 U1 (fun _ _ d _ _ h=>by cases d<;>exact h) b.out ?_;have k:=zH (n.out w.drew b.out);generalize w.drew=t at *;simp only[List.map_cons,List.map_nil,List.getD_cons_zero,List.getD_cons_succ]
 iterate 12
  apply qcH rfl
  . intro W o
    obtain⟨L,M⟩:=f.out W o
    go_simp
    rfl
  go_simp
 apply qcE rfl
 . go_simp;exact⟨rfl,rfl⟩
 with_reducible refine k.out.mono ?_
 rintro e w' ⟨rfl,rfl⟩;refine⟨_,rfl,b.out,?_⟩;go_simp;apply qcE rfl
 . go_simp;exact⟨rfl,rfl⟩
 have i:=zH (j.out t);with_reducible refine i.out.mono ?_
 rintro e z ⟨rfl,hrow,hb⟩;have c:Hid (LSt w z):=Below.trans b.out (hb.mono (Below.size b.out));have r:=zH (hrow.base (Below.size b.out));refine⟨_,rfl,c.out,?_⟩;go_simp;refine qeJ ?_;clear hrow hb i k j n f;go_wp2_with fail;go_ret;exact⟨⟨_,rfl,r.out⟩,c.out⟩
theorem qaP{P:Program}{ops:Array Oper}{rest:List Oper}{o:Oper}{a:Act}{w:World}{Q:Exit->Act->World->Prop}(b:o.guard=none)(s x:Operand)(t:TypeId)(c:o.op=.call { callee:=.builtin .append,args:=#[s,x],argTypes:=#[t,t] }){v1 v2 v:Value}{w':World}(f:a.eval s=v1)(g:a.eval x=v2)(d:(Builtin.append_ #[t,t] o.type #[v1,v2]).run P w=.ok v w')(h:wpList P ops Q rest (a.put o.dst v) w'):wpList P ops Q (o :: rest) a w:=
 wpList_plain b fun K hK=>by
  unfold Oper.wp execOp
  simp only[c,resolve,invoke,builtin,Sem.run_bind,Sem.run_pure,Result.andThen_ok,List.map_toArray,List.map_cons,List.map_nil,f,g,d]
  exact hK _ _ h
def pwN(O:Ops)(r:Nat):Nat->Nat
 |0=>1
 |k+1=>O.mul (pwN O r k) r
def pwL(O:Ops)(r n:Nat):List Nat:=(List.range n).map (pwN O r)
theorem qcU(O:Ops)(r n:Nat):(pwL O r n).length=n:=by simp[pwL]
theorem pwL_succ(O:Ops)(r n:Nat):pwL O r (n+1)=pwL O r n++[pwN O r n]:=by simp[pwL,List.range_succ]
theorem pwL_at(O:Ops)(r n k:Nat)(h:k<n):(pwL O r n).getD k 0=pwN O r k:=by simp[pwL,List.getD,h]
theorem pwN_lt{O:Ops}{q r:Nat}(c:∀x y,x<q->y<q->O.mul x y<q)(b:1<q)(d:r<q):∀k,pwN O r k<q
 |0=>b
 |k+1=>c _ _ (pwN_lt c b d k) d
def imN(O:Ops)(p m1 r x:Nat):Nat:=Dv.dotO O 0 (digs p m1 x) (pwL O r m1)
def EmbPost(w:World)(p1 m1:Int)(mod1:List Int)(p:Nat)(O:Ops)(q:Nat)(e:Ending)(w':World):Prop :=
 (∃(A : Option Addr)(n c : Nat)(z : Int),e = .returned (.tuple #[zL A n c,Y z])/\(z = 0->fieldOK p1 m1 mod1 = true/\p1 = (p : Int)/\n = p1.toNat^m1.toNat/\
   ∃r,r<q/\(m1=1\/evN O (mdOf m1 mod1++[1]) r=0)/\IntsAt w' w'.heap.size A (nz ((List.range n).map (imN O p m1.toNat r)))))/\Below w.heap.size w w'
def RelEm(w:World)(f:Nat->Nat)(n go lo:Nat)(v82:Value)(wr:World):Prop:=
 ∃k:Nat,k<=n/\v82=Y k/\Row wr lo go n (nz (scK f (List.range n) k))/\Below lo w wr
def CutE(w3:World)(O:Ops)(q m1:Nat)(root:Nat->Prop)(v10:Value)(wx:World):Prop:=
 ∃(r:Nat)(VA:Option Addr)(ck:Nat),v10=zL VA m1 ck/\IntsAt wx wx.heap.size VA (nz (pwL O r m1))/\r<q/\root r/\Below w3.heap.size w3 wx
def RelPx(wA:World)(Bp:Nat)(O:Ops)(r m1:Nat)(v10 v13:Value)(wr:World):Prop:=
 ∃i:Nat,1<=i/\i<=m1/\v13=Y i/\Num wr Bp v10 (pwL O r i)/\wA.grownBy wr (some Bp)/\∀b,v10.ownBlock=some b->b=Bp\/wA.heap.size<=b
theorem below_of_grown_at{w w':World}{b:Nat}(h:w.grownBy w' (some b))(c:b<=w.heap.size):Below b w w':=
 ⟨h.os,h.tape,h.output,h.size,fun k hk=>h.block k U0 (fun e=>by injection e with e;omega)⟩
theorem embed_c(p1 m1:Int)(f6:List Int)(A1:Option Addr)(c1 gb p m:Nat)(mod:List Int)(md l:List Nat)(w:World)(f7:IntsAt w w.heap.size A1 f6)(f9:f6.length<=9223372036854775807)(hF:FT p m md l)(hG:GFM w w.heap.size gb p m mod l (logL l (p ^ m)))(f8:mod.length<=1000000):
 zC 160 #[Ch p1 m1 A1 f6.length c1,zP gb] w (EmbPost w p1 m1 f6 p (opsT p m l) (p^m)):=by
 have fy:=hF.small.q;have fe:=hF.small.m2;have fu:gb<w.heap.size:=hG.1;have HF:=zH hF;have HG:=zH hG;have HA:=zH f7;have HX:=zH (bx_new w (Ci p1 m1 A1 f6.length c1) 29);clear hF hG f7;go_enter Tryz.func160,Tryz.ntmps160;go_upto_region 1 with fail;generalize w.alloc (Ce p1 m1 A1 f6.length c1)=W0 at *;have cw:=zH HX.out.range;have HN:=zH (fnew_full p1 m1 f6 A1 c1 W0 ((HA.out.keep HX.out.below).more HX.out.below.size) f9);go_wp2_with (refine wpList_load_mid rfl 29 (.tmp 2) rfl w.heap.size 0 rfl (Ci p1 m1 A1 f6.length c1) _ cw.out Tryz.underlying29 rfl fieldSize ?_);(with_reducible refine HN.out.mono ?_);rintro e w1 ⟨hcase,hb1⟩;have ar:=zH (HX.out.grow hb1);clear hb1 HX cw HN;rcases hcase with⟨T,rfl⟩|⟨T,gs,rfl,_,dh⟩
 . go_wp2_with fail;go_ret2;exact⟨⟨none,0,0,1,rfl,fun h=>by cases h⟩,ar.out.below⟩
 have hs:=shape_is (by unfold fieldOK at T;rw[Bool.and_eq_true] at T;exact T.1:shapeM p1 m1 f6=true);have HS:=zH hs;have bz:=zH T;have co:=zH dh.gf;have cm:=zH (field_ft T);have fx:=hs.p0;have fc:=hs.m0;have dt:=hs.small.m1;have fs:=hs.small.m2;have cg:=hs.small.q;have ct:=zH (prime_c gb w.heap.size p m mod l _ w1 (HG.out.keep ar.out.below) ar.out.below.size f8);clear dh T hs;go_wp2_with fail;(with_reducible refine ct.out.mono ?_);rintro e w2 ⟨rfl,hb2⟩;have R:=zH (ar.out.grow hb2);have bf:=zH ((co.out.keep hb2).more hb2.size);clear hb2 ar ct co;have y0:w2.cell? (zA w.heap.size 0)=some (Y p1):=R.out.cell rfl;by_cases a3:p1=(p:Int);rotate_left
 . have dn:(p1 != (p:Int))=true:=bne_iff_ne.2 a3;clear a3;go_wp2_with fail;go_ret2;exact⟨⟨none,0,0,10,rfl,fun h=>by cases h⟩,R.out.below⟩
 have dn:(p1 != (p:Int))=false:=by rw[a3];simp
 have a7:=zH a3;have y1:w2.cell? (zA w.heap.size 1)=some (Y m1):=R.out.cell rfl;have HD:=zH (isdegree_c gb w.heap.size p m m1 mod l _ w2 (HG.out.keep R.out.below) R.out.below.size f8 fe);clear a3;go_wp2_with fail;(with_reducible refine HD.out.mono ?_);rintro e c ⟨rfl,hb3⟩;have B:=zH (R.out.grow hb3);have ak:=zH ((bf.out.keep hb3).more hb3.size);clear hb3 R HD bf y0 y1;cases hdg:degB m m1
 . go_wp2_with fail;go_ret2;exact⟨⟨none,0,0,10,rfl,fun h=>by cases h⟩,B.out.below⟩
 clear hdg dn;have o:w.heap.size<c.heap.size:=B.out.2.2;have y1:c.cell? (zA w.heap.size 1)=some (Y m1):=B.out.cell rfl;go_upto_region 8 with fail;have b6:Below c.heap.size c (c.alloc (.cells #[Y 1] 3)):=(Below.refl _ _).alloc (Nat.le_refl _) _;have bw:Hid ((c.alloc (.cells #[Y 1] 3)).heap[c.heap.size]?=some (.cells #[zN 1] 3 (0,0))):=heap_alloc_new _ _;have bx:Hid (Num (c.alloc (.cells #[Y 1] 3)) c.heap.size (zS c.heap.size 1 1) [1]):=World.ownsRow_lit (size:=1) c #[Y 1] 1 (Nat.le_refl _) U3 rfl;have ai:=zH b6;have ds:c.heap.size<(c.alloc (.cells #[Y 1] 3)).heap.size:=U2;clear y1 b6;generalize c.alloc (.cells #[Y 1] 3)=s at *;have y1:s.cell? (zA w.heap.size 1)=some (Y m1):=(ai.out.cell (p:=(zA w.heap.size 1)) o).trans (B.out.cell rfl);obtain ⟨I,a4⟩:∃ I:Nat->Prop,I=fun r=>m1=1\/evN (opsT p m l) (mdOf m1 f6++[1]) r=0:=⟨_,rfl⟩;have a9:=zH a4;clear a4;go_upto_if 43 with fail;go_cut [10] (fun v10 wx=>CutE c (opsT p m l) (p ^ m) m1.toNat I v10 wx);case first =>
  by_cases ad:m1=1
  . (have dl:¬1<m1:=by omega);(have HC:Hid (CutE c (opsT p m l) (p^m) m1.toNat I (zS c.heap.size 1 1) s):=by refine⟨0,some (zA c.heap.size 0),1,by rw[ad];rfl,?_,Nat.pow_pos (by have:=HF.out.small.p1;omega),by rw[a9.out];exact .inl ad,ai.out⟩;rw[ad];exact bx.out.up.ints);clear ad;go_wp2_with fail;go_meet;exact HC.out
  . (have dl : 1 < m1 := by omega);have bo:f6.length=m1.toNat:=HS.out.len ad;have bc:nz (mdOf m1 f6)=f6:=HS.out.nat ad;have bq:=HS.out.lt;(have bn:(mdOf m1 f6).length=f6.length:=by rw [<- bc,qaA];simp [bc]);(have ce:p1.toNat=p:=by have:=a7.out;omega);obtain ⟨i0,hi,M,N,Q⟩:=qaF infoInt;have av:Below w.heap.size w s:=B.out.below.trans (ai.out.mono (Nat.le_of_lt o));have b2:IntsAt s s.heap.size A1 f6:=(HA.out.keep av).more av.size;obtain ⟨ba,oa,rfl,b6,fb⟩:=b2 U0;have ay:Below s.heap.size s (s.alloc (.cells #[] 3)):=(Below.refl _ _).alloc (Nat.le_refl _) _;obtain ⟨g6,au,w6,U,C,bm,aa,dj⟩:=run_append_lies (P:=Tryz.prog) (s.alloc (.cells #[] 3)) 23 23 s.heap.size 3 i0 _ 1 8 Tryz.underlying23 hi M N Q rfl dc (zS s.heap.size 0 0) 0 [] (World.ownsRow_made s #[] 0 (Nat.le_refl _) U3 rfl) (zA ba oa) f6.length c1 (f6.map (Value.int .i64)) U2 ((b2.keep ay).news) (by intro u hu;obtain ⟨z,_,rfl⟩:=List.mem_map.1 hu;rfl) U0 U3 U0 U2 _ rfl;have b3:Below s.heap.size s w6:=ay.grown bm ay.size (fun k hk=>by simp [Value.ownBlock] at hk;omega);(have cd:Num w6 s.heap.size (zS g6 f6.length au) (mdOf m1 f6):=by unfold Num;rw [bc,bn];simpa using C);have bb:Below s.heap.size s (w6.alloc (.cells #[Y 1] 3)):=b3.alloc b3.size _;obtain ⟨v7,w7,V,a1,de⟩:=app_int (W:=w6.alloc (.cells #[zN 1] 3)) 1 w6.heap.size (World.ownsRow.alloc cd _) bb.size U0 (heap_alloc_new _ _);have aw:Below s.heap.size s w7:=bb.grown de bb.size (fun k hk=>(World.ownsRow.lt cd k hk).1);obtain ⟨vl,af⟩:∃ vl,mdOf m1 f6++[1]=vl:=⟨_,rfl⟩;(have a5:vl.length=f6.length+1:=by rw [<- af];simp;omega);(have b9:vl.getD (vl.length-1) 0=1:=by rw [a5,<- af,show f6.length+1-1=(mdOf m1 f6).length by omega];simp [List.getD]);have dw:∀ x∈vl,x<p ^ m:=fun x hx=>by
     have ae:=(Al.fld_of HF.out).q1;have dp:p<=p^m:=Nat.le_self_pow (by have:=HF.out.small.m1;omega) p;rw[<- af] at hx;rcases List.mem_append.1 hx with hx|hx
     . have:=bq x hx;omega
     . (have:x=1:=by simpa using hx);omega
    rw[af] at a1;obtain⟨c7,c8,dv⟩:=a1.slice;rw[dv] at V a1;(have bh:Hid (∀r,evN (opsT p m l) vl r=0->I r):=fun r hr=>by rw[a9.out];right;rw[af];exact hr);have cx:=zH (roots_c gb p m md l vl c7 c8 w7 HF.out (((HG.out.keep (av.trans (aw.mono av.size))).gf).more (by have:=av.size;have:=aw.size;omega)) dw a1.up.ints U0 U0 U0);rw[Nat.zero_add] at U;have ap:=zH U;have aq:=zH V;have bu:=zH aw;have bd:s.heap.size<=w7.heap.size:=aw.size;have y2:(s.alloc (.cells #[] 3)).cell? (zA w.heap.size 2)=some (zL (some (zA ba oa)) f6.length c1):=(ay.cell (p:=(zA w.heap.size 2)) (by show w.heap.size < _;omega)).trans ((ai.out.cell (p:=(zA w.heap.size 2)) o).trans (B.out.cell rfl));have fi:=zH bo;have fk:=zH a5;have fp:2<=f6.length:=U0;clear bo a5 bc bq bn ce hi M N Q b2 fb ay U C bm aa dj b3 cd bb V a1 de aw dv dw b9 af bx
    go_upto_region 10 with(first
     |(at_builtin;refine qaP (v1:=zS s.heap.size 0 0) (v2:=zL (some (zA ba oa)) f6.length c1) (v:=zS g6 f6.length au) (w':=w6) rfl (.tmp 46) (.tmp 48) 23 rfl rfl rfl ap.out ?_)
     |(at_builtin;refine qaP (v1:=zS g6 f6.length au) (v2:=zS w6.heap.size 1 1) (v:=zL c7 vl.length c8) (w':=w7) rfl (.tmp 49) (.tmp 50) 23 rfl rfl rfl aq.out ?_))
    (with_reducible refine cx.out.mono ?_);rintro e X ⟨⟨VR,rs,ckr,rfl,hup,hrs⟩,hb9⟩;have E:Hid (Below c.heap.size c X):=ai.out.trans ((bu.out.trans (hb9.mono bd)).mono (Nat.le_of_lt ds));have f3:s.heap.size<=X.heap.size:=Nat.le_trans bd hb9.size;have cr:Hid (X.heap[c.heap.size]?=some (.cells #[zN 1] 3 (0,0))):=((bu.out.trans (hb9.mono bd)).block _ ds).trans bw.out;have c6:Hid (IntsUp X s.heap.size VR (nz rs)):=hup.lower bd;have cy:=zH hrs;clear hup hrs hb9 cx ap aq bu y2 bw;have fq:(0:Int)<=(rs.length:Int):=U0;by_cases dq:rs.length=0
    . have fg:((rs.length:Int)==0)=true:=beq_iff_eq.2 U0;have ah:Hid (Below w.heap.size w X):=B.out.below.trans (E.out.mono (Nat.le_of_lt o));clear dq;go_wp2_with fail;go_ret2;exact⟨⟨none,0,0,10,rfl,fun h=>by cases h⟩,ah.out⟩
    have fg:((rs.length:Int)==0)=false:=beq_false_of_ne U0;have f2:(0:Int)<(rs.length:Int):=U0;obtain⟨br,be,rfl,fn,fo,db⟩:=c6.out (by rw[qaA];omega);have az:=db 0 (by rw[qaA];omega);rw[qaC,Nat.add_zero] at az
    obtain⟨L,dr⟩:=cy.out (rs.getD 0 0) (by
     have:rs.getD 0 0=rs[0]'U0:=by simp[List.getD,show 0<rs.length by omega]
     rw[this]
     exact List.getElem_mem _)
    have ao:=zH (bh.out _ dr);have ch:=zH az;obtain⟨r,hr⟩:∃r,rs.getD 0 0=r:=⟨_,rfl⟩;rw[hr] at ch ao L;(have c9:Hid (RelPx X c.heap.size (opsT p m l) r m1.toNat (zS c.heap.size 1 1) (Y 1) X):=by refine⟨1,Nat.le_refl _,dt,rfl,?_,⟨rfl,rfl,rfl,Nat.le_refl _,fun _ _ _=>rfl⟩,fun b hb=>.inl (by injection hb with hb;exact hb.symm)⟩;show Num X c.heap.size (zS c.heap.size 1 1) [1];exact⟨rfl,.inr ⟨c.heap.size,1,#[Y 1],rfl,Nat.le_refl _,cr.out,by first|decide|(unfold maxLen;omega),by first|decide|(unfold maxLen;omega),by first|decide|simp,rfl⟩⟩);have f1:0<rs.length:=U0;clear hr db az dr cy c6 dq bh;have al:Hid (∀x y,x<p^m->y<p^m->(opsT p m l).mul x y<p^m):=fun x y hx hy=>mulT_lt HF.out hx hy;have a8:Hid (∀k,pwN (opsT p m l) r k<p^m):=pwN_lt al.out (Al.fld_of HF.out).q1 L;have d2:Hid (GFAt X w.heap.size gb p m l (logL l (p^m))):=(HG.out.keep (B.out.below.trans (E.out.mono (Nat.le_of_lt o)))).gf
    have bg:Hid (∀(x:Nat)(W:World),x<p^m->Below w.heap.size X W->zC 142 (Cn gb x r) W (Quiet (Y (((opsT p m l).mul x r:Nat):Int)) W)):=
     fun x W hx Z=>mul_c x r gb p m w.heap.size md l W HF.out (d2.out.keep Z) hx L
    have d6:Hid (∀k,pwN (opsT p m l) r (k+1)=(opsT p m l).mul (pwN (opsT p m l) r k) r):=fun k=>rfl;have y1:X.cell? (zA w.heap.size 1)=some (Y m1):=(E.out.cell (p:=(zA w.heap.size 1)) o).trans (B.out.cell rfl);clear al ak cm HS bz HA HG;generalize opsT p m l=O at *;generalize ff:p^m=q at *;clear ff;go_wp2_with fail;go_loopw [10,13] (fun v10 v13 wr=>RelPx X c.heap.size O r m1.toNat v10 v13 wr) (fun _ v13 _=>m1.toNat-(intOf v13).toNat);case atStart=>exact c9.out
    case round =>
     obtain⟨i,fv,fw,rfl,a2,S,K⟩:=hrel;have J:=zH a2;have H:=zH S;have an:=zH K;have ah:Hid (Below c.heap.size X wr):=below_of_grown_at S (by have:=E.out.size;omega);have f5:wr.cell? (zA w.heap.size 1)=some (Y m1):=(ah.out.cell (p:=(zA w.heap.size 1)) o).trans y1;have du:X.heap.size<=wr.heap.size:=S.size;obtain⟨VA,ck,rfl⟩:=a2.slice;rw[qcU] at J an ⊢;clear a2 S K c9 y1;by_cases a0:i<m1.toNat
     . (have i1 : (i : Int) < m1 := by omega);(have i2:IntKind.i64.wrap ((i:Int)-1)=((i-1:Nat):Int):=by rw [IntWalk.i64_in _ U0];omega);have i3:IntKind.i64.wrap ((i:Int)+1)=(i:Int)+1:=IntWalk.i64_in _ U0;have i4:(0:Int)<=((i-1:Nat):Int):=U0;have i5:((i-1:Nat):Int)<(i:Int):=U0;(have bi:Hid (IntsAt wr wr.heap.size VA (nz (pwL O r i))):=by have h:=J.out;unfold Num at h;rw [qcU] at h;exact (ints_of_own h (qcU O r i)).ints);obtain ⟨bp,op,rfl,fa,b7⟩:=bi.out.at_ (k:=i-1) (by rw [qaA,qcU];omega);rw [qaC,pwL_at O r i (i-1) U0] at b7;have dx:=a8.out (i-1);(have c5:Hid (pwL O r (i+1)=pwL O r i++[O.mul (pwN O r (i-1)) r]):=by show _=_;rw [pwL_succ];obtain ⟨j,rfl⟩:∃ j,i=j+1:=⟨i-1,U0⟩;rw [d6.out j];rfl);generalize pwN O r (i-1)=x at *;have bj:wr.cell? (zA br be)=some (Y (r:Int)):=(World.cell?_of_block (a:=(zA br be)) (H.out.block br U0 (fun e=>by injection e with e;omega))).trans ch.out;have d0:Hid (∀ W,LSt wr W->W.cell? (zA bp (op+(i-1)))=some (Y (x:Int))/\W.cell? (zA br be)=some (Y (r:Int))):=fun W Z=>⟨(Below.cell Z (p:=(zA bp (op+(i-1)))) fa).trans b7,(Below.cell Z (p:=(zA br be)) (by show br < _;omega)).trans bj⟩;have c3:Hid (LSt wr wr.drew):=(Below.refl _ _).drew;have d4:=zH (bg.out x wr.drew dx ((ah.out.mono (Nat.le_of_lt o)).drew));clear b7 bj bg bi dx;go_upto_region 15 with fail;refine qbM 12 (LSt wr) [(true,0),(true,1),(true,2),(true,3),(true,4),(true,5),(true,6),(true,7),(true,8),(true,9),(false,10),(false,11)] default U1 U1 (fun _ _ d _ _ h=>by cases d <;> exact h) c3.out ?_;generalize wr.drew=W1 at *;simp only [List.map_cons,List.map_nil,List.getD_cons_zero,List.getD_cons_succ]
       iterate 10
        apply qcH rfl
        . intro W Z
          obtain⟨z0,z1⟩:=d0.out W Z
          go_simp
          rfl
        go_simp
       apply qcE rfl
       . go_simp;exact⟨rfl,rfl⟩
       (with_reducible refine d4.out.mono ?_);rintro e w' ⟨rfl,n,rfl⟩;have ab:Hid (LSt wr (W1.drewN n)):=qaB c3.out n;refine⟨_,rfl,ab.out,?_⟩;go_simp;generalize W1.drewN n=W2 at *;have ac:Hid (LSt wr (W2.alloc (.cells #[Y ((O.mul x r:Nat):Int)] 3))):=Below.alloc ab.out (Below.size ab.out) _;have ft:wr.heap.size<=W2.heap.size:=Below.size ab.out;have d9:Num (W2.alloc (.cells #[Y ((O.mul x r:Nat):Int)] 3)) c.heap.size (zL (some (zA bp op)) i ck) (pwL O r i):=World.ownsRow.alloc (J.out.grow ab.out) _;obtain⟨i0,hi,M,N,Q⟩:=qaF infoInt;obtain⟨v',w6,bt,C,dd,_,aa⟩:=run_append_own_at (P:=Tryz.prog) (w:=W2.alloc (.cells #[Y ((O.mul x r:Nat):Int)] 3)) c.heap.size 23 23 3 i0 _ 1 8 Tryz.underlying23 hi M N Q rfl dc (zL (some (zA bp op)) i ck) (pwL O r i).length _ d9 (zA W2.heap.size 0) 1 1 [Y ((O.mul x r:Nat):Int)] rfl (World.news_of_block (cs:=#[Y ((O.mul x r:Nat):Int)]) (t:=3) (fr:=(0,0)) (heap_alloc_new _ _)) (by intro u hu;simp at hu;subst hu;rfl) (by rw[qcU];unfold maxLen;omega) (by rw[qcU];omega) (by have:=E.out.size;simp;omega);have cz:=zH bt;(have d5:Hid (Num w6 c.heap.size v' (pwL O r (i+1))):=by have h:=Num.step C;rw[<- c5.out] at h;exact h);have aj:=zH dd;have fj:Hid (LSt wr W2):=ab.out;have dy:=zH aa;clear hi M N Q bt C dd aa;apply mix_step rfl
       . go_simp;exact⟨rfl,rfl⟩
       . exact ac.out
       go_simp;refine qeJ ?_
       go_wp2_with (first
        |(at_builtin;refine qaP (v:=v') (w':=w6) rfl (.tmp 64) (.tmp 75) 23 rfl rfl rfl cz.out ?_))
       have da:∀b,(Value.slice (some (zA bp op)) i ck).ownBlock=some b->b=c.heap.size\/X.heap.size<=b:=an.out;have fh:wr.heap.size<=(W2.alloc (.cells #[Y ((O.mul x r:Nat):Int)] 3)).heap.size:=ac.out.size
       refine⟨⟨i+1,U0,U0,U2,d5.out,⟨aj.out.os.trans (ac.out.os.trans H.out.os),aj.out.tape.trans (ac.out.tape.trans H.out.tape),aj.out.output.trans (ac.out.output.trans H.out.output),Nat.le_trans du (Nat.le_trans fh aj.out.size),fun k hk hne=>(aj.out.block k U0 (fun e=>by
        rcases da k e.symm with rfl|h
        . exact hne rfl
        . omega)).trans ((ac.out.block k U0).trans (H.out.block k hk hne))⟩,?_⟩,by simp[intOf];omega⟩
       intro b hb;rcases dy.out with h|h
       . rw[h] at hb;exact da b hb
       . rw[h] at hb;injection hb with hb;right;omega
     . (obtain rfl:i=m1.toNat:=by omega);have i1:¬(m1.toNat:Int)<m1:=U0;(have HC:Hid (CutE c O q m1.toNat I (zL VA m1.toNat ck) wr):=by refine⟨r,VA,ck,rfl,?_,L,ao.out,E.out.trans ah.out⟩;have h:=J.out;unfold Num at h;rw[qcU] at h;exact(ints_of_own h (qcU O r _)).ints);clear J an H;rw[fc];go_wp2_with fail;go_meet;exact HC.out
 case rest =>
  obtain⟨r,VA,ck,rfl,di,L,cf,ax⟩:=hcut;have ce:p1.toNat=p:=by have:=a7.out;omega
  have dm:0<p:=by have:=HF.out.small.p1;omega
  have bv:=zH ((ak.out.keep ax).more ax.size);have f4:c.heap.size<=wc.heap.size:=ax.size;have ag:Hid (Below w.heap.size w wc):=B.out.below.trans (ax.mono (Nat.le_of_lt o));have cq:=zH di;have cn:Hid (GFAt wc w.heap.size gb p m l (logL l (p^m))):=(HG.out.keep ag.out).gf;have b1:Hid (r<p^m/\(m1=1\/evN (opsT p m l) (mdOf m1 f6++[1]) r=0)):=⟨L,by rw[a9.out] at cf;exact cf⟩;have dp:p<=p^m:=Nat.le_self_pow (by have:=HF.out.small.m1;omega) p;have al:Hid (∀x y,x<p^m->y<p^m->(opsT p m l).mul x y<p^m):=fun x y hx hy=>mulT_lt HF.out hx hy;have a8:Hid (∀k,pwN (opsT p m l) r k<p^m):=pwN_lt al.out (Al.fld_of HF.out).q1 L;obtain⟨D,ae⟩:∃D,p1.toNat^m1.toNat=D:=⟨_,rfl⟩;have d1:Hid (∀(x:Nat)(W:World),x<D->Below wc.heap.size wc W->zC 205 (Db gs x) W fun e w'=>(∃g,e=.returned (zS g m1.toNat m1.toNat)/\Row w' W.heap.size g m1.toNat (nz (digs p m1.toNat x)))/\Below W.heap.size W w'):=fun x W hx Z=>by have h:=digits_c x gs p1.toNat m1.toNat wc.heap.size _ _ W HS.out.small (bv.out.keep Z) Z.size (by rw[ae];exact hx);rw[ce] at h;exact h
  have ci:Hid (∀(x:Nat)(g:Nat)(W:World),Below wc.heap.size wc W->IntsAt W W.heap.size (zO g) (nz (digs p m1.toNat x))->zC 138 #[zP gb,zS g m1.toNat m1.toNat,zL VA m1.toNat ck] W (Quiet (Y ((imN (opsT p m l) p m1.toNat r x:Nat):Int)) W)):=fun x g W Z hg=>by
   have b8:(digs p m1.toNat x).length=m1.toNat:=qaK ..
   have h:=dot_c gb p m W.heap.size md l (digs p m1.toNat x) (pwL (opsT p m l) r m1.toNat) (zO g) VA m1.toNat ck W HF.out (((cn.out.keep (Z.mono ag.out.size))).more (Nat.le_trans ag.out.size Z.size)) (by rw[qcU,b8]) (fun y hy=>by
    have:=qdU (p:=p) dm m1.toNat x y hy
    omega) (fun y hy=>by
    obtain⟨k,_,rfl⟩:=List.mem_map.1 hy
    exact a8.out k) hg ((cq.out.keep Z).more Z.size) (by rw[b8];omega)
   rw[b8] at h;exact h
  have d3:Hid (zC 120 #[zP gs] wc fun e w'=>e=.returned (Y (D:Int))/\wc=w'):=by have h:=gorder_c gs wc.heap.size p1.toNat m1.toNat _ _ wc bv.out;rw[ae] at h;exact h
  rw[ae] at cg;obtain⟨f,hf⟩:∃f,imN (opsT p m l) p m1.toNat r=f:=⟨_,rfl⟩
  have cl:Hid (∀(w':World)(A:Option Addr),IntsAt w' w'.heap.size A (nz ((List.range D).map f))->Below w.heap.size w w'->EmbPost w p1 m1 f6 p (opsT p m l) (p^m) (.returned (.tuple #[zL A D D,Y 0])) w'):=fun w' A hA hb=>
   ⟨⟨A,D,D,0,rfl,fun _=>⟨bz.out,a7.out,ae.symm,r,b1.out.1,b1.out.2,by rw[hf];exact hA⟩⟩,hb⟩
  rw[hf] at ci;clear di L cf ax bv cq cn b1 al a8 a9 ak cm HS bz HA HG bx bw dp hf y1 a7 ae B;obtain⟨i0,hi,M,N,Q⟩:=qaF infoInt;have HI:=zH hi;have d7:=zH M;have d8:=zH N;have a6:=zH (show i0.bytes*D<=281474976710656 by rw[Q];omega);have dz:=zH (show D<=maxLen by unfold maxLen;omega);clear hi M N Q;have HQ:=zH cg;generalize EmbPost w p1 m1 f6 p (opsT p m l) (p^m)=fm at *;clear HF;clear cg;go_wp2_with fail;(with_reducible refine d3.out.mono ?_);rintro e w' ⟨rfl,rfl⟩;go_wp2_with (refine wpList_make_full wc rfl (.tmp 78) (.tmp 78) 23 rfl wc.heap.size 3 i0 (Y 0) 1 Tryz.underlying23 HI.out d7.out d8.out .i64 .i64 D D D rfl rfl rfl rfl a6.out dz.out (Nat.le_refl _) ?_;intro w1 K S)
  have HS:Hid (RelEm wc f D wc.heap.size wc.heap.size (Y ((0:Nat):Int)) w1):=⟨0,U0,rfl,by
   have:=Row.of_make K
   unfold scK
   simpa using this,qaL S⟩
  clear K S;go_loopw [82] (fun v82 wr=>RelEm wc f D wc.heap.size wc.heap.size v82 wr) (fun v82 _=>D-(intOf v82).toNat);case atStart=>exact HS.out
  case round =>
   obtain⟨k,hk,rfl,bs,hb⟩:=hrel;have HR:=zH bs;have HB:=zH hb;have fz:=HQ.out;clear bs hb HS;by_cases a0:k<D
   . have c4:=zH (scK_set f (List.range D) k (by simpa using a0));(have dg:(List.range D).getD k 0=k:=by simp[List.getD,a0]);rw[dg] at c4;clear dg;go_wp2_with fail;(with_reducible refine(d1.out k wr a0 HB.out).mono ?_);rintro e w2 ⟨⟨g,rfl,hrow2⟩,hb2⟩;have a6:Hid (Below wc.heap.size wc w2):=HB.out.trans (hb2.mono HB.out.size);have cj:=zH (ci.out k g w2 a6.out (hrow2.ints hrow2.lt.2));have b0:Hid (Row w2 wc.heap.size wc.heap.size D (nz (scK f (List.range D) k))):=HR.out.below hb2 HR.out.lt.2;clear hrow2 hb2;go_wp2_with fail;(with_reducible refine cj.out.mono ?_);rintro e c ⟨rfl,n,rfl⟩;have f0:=b0.out.frozen k;have c0:=b0.out.cell (j:=k) (by rw[qaA,scK_len f _ k (by simpa using hk)];simpa using a0);go_wp2_with fail;go_roundw;case rel=>refine⟨k+1,U0,gn,?_,(qaB a6.out n).setCell (p:=(zA wc.heap.size k)) (Nat.le_refl _) _⟩;rw[<- c4.out,<- qbC];exact Row.set (w:=w2.drewN n) b0.out k _
     case measure=>exact mE
   . (obtain rfl:D=k:=by omega);go_wp2_with fail;refine cl.out _ _ ?_ (ag.out.trans (HB.out.mono ag.out.size));have h:=HR.out;unfold scK at h;rw[List.length_range,Nat.sub_self,List.replicate_zero,List.append_nil,List.take_of_length_le U2] at h;exact Row.ints h (Row.lt h).2
end Go.Proofs.YtndipkplnkfoeaaGreat
