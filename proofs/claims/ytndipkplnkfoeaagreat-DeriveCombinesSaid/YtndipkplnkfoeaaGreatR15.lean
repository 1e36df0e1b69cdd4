/- Parts of the proof. -/
import Derived.Shelf.Abstract
import Derived.Test.YtndipkplnkfoeaaGreatR14
set_option maxRecDepth 100000
set_option maxHeartbeats 8000000
namespace Go.Proofs.YtndipkplnkfoeaaGreat
open Go.RowKit Pln
def cnts:Nat->List Nat
 |0=>[0,0,0,0]
 |1=>[1,0,0,0]
 |_=>[1,0,0,1]
theorem cnts_len:∀k,k<=2->(cnts k).length=4
 |0,_=>rfl
 |1,_=>rfl
 |2,_=>rfl
theorem cnts_step{k:Nat}(b:k<2):Dv.wt (List.replicate 3 k)<4/\(cnts k).getD (Dv.wt (List.replicate 3 k)) 0=0/\(cnts k).set (Dv.wt (List.replicate 3 k)) 1=cnts (k+1):=by
 match k,b with
 |0,_=>exact⟨dc,rfl,rfl⟩
 |1,_=>exact⟨dc,rfl,rfl⟩
theorem below_putObj{B l:Nat}{a W:World}(h:Below B a W)(b:B<=l)(o:Obj):Below B a (W.putObj l o):=
 ⟨h.os,h.tape,h.output,by simpa using h.size,fun k hk=>(World.putObj_heap_other U0).trans (h.block k hk)⟩
structure WtI (w:World) (Bo bo k:Nat) (W:World):Prop where
 box:W.cell? (zA Bo 0)=some (zS bo 4 4)
 row:Row W w.heap.size bo 4 (nz (cnts k))
 low:Below w.heap.size w W
theorem WtI.keep{w:World}{b c k B:Nat}{W f:World}(h:WtI w b c k W)(d:Below B W f)(g:b<B)(i:c<B)(j:w.heap.size<=B):WtI w b c k f:=
 ⟨(d.cell (p:=(zA b 0)) g).trans h.box,h.row.below d i,h.low.trans (d.mono j)⟩
def RdPost(I:Nat->World->Prop)(bo k:Nat)(W2:World)(e:Exit)(_:Act)(W3:World):Prop:=e=.normal/\I (k+1) W3/\W2.heap.size<=W3.heap.size/\∀b,b<W2.heap.size->b≠bo->W3.heap[b]?=W2.heap[b]?
theorem range_two(w4:World){g:Operand}{ps:Array Tmp}{assign body:Code}{Q:Exit->Act->World->Prop}{a:Act}{lb:Array Value}(hg:a.eval g=.func (.func 167) #[] lb)(ae:ps.size=2)(I:Nat->World->Prop)(bo:Nat)(af:bo<w4.heap.size)(hI:∀ k A B,I k A->Below w4.heap.size A B->I k B)(h0:I 0 w4)(ad:∀ (l:Nat) (J:Nat->World->Prop) (W:World),Below w4.heap.size w4 W->l<W.heap.size->w4.heap.size<=l->(∀ j A B,J j A->Below W.heap.size A B->J j B)->RndsOk l bo W.heap.size J->J 0 W->zC 167 (#[.func (.yield l) #[] #[]]++lb) W fun e w'=>(∃ v,e=.returned v)/\J 2 w')(a₁:Nat->Nat->Nat->Act)(aa:∀ (l k g c:Nat) (W:World) (K:Act->World->Prop),K (a₁ k g c) W->assign.wpIn (Fence.wide.inRound l) 0 Tryz.prog (Exit.then K (fun _ _ _=>False)) { tmps:=(ps.zip (Dc k g 3 c)).foldl (fun t (p,v)=>t.setIfInBounds p v) a.tmps,defers:=[] } W)(ab:∀ (l k g c:Nat) (W2:World),k<2->I k W2->Row W2 w4.heap.size g c (nz (List.replicate 3 k))->body.wpIn (Fence.wide.inRound l) 0 Tryz.prog (RdPost I bo k W2) (a₁ k g c) W2)(ac:∀ (D:Nat) (W:World),I 2 W->w4.heap.size<=D->W.heap[D]?=some (.deferred (some []))->Q .normal { a with defers:={ target:=.collected D,args:=#[] } :: a.defers } W):
 (Code.rangeFunc g ps assign body).wpIn Fence.wide 0 Tryz.prog Q a w4:=by
 refine wpIn_rangeFunc ?_;intro fn M;obtain⟨d,f⟩:∃d:LoopState->Option Code->Loop,d=fun st pe=>{ state:=st,pending:=pe,fn,tmps:=a.tmps,params:=ps,assign,body,defers:=w4.heap.size }:=⟨_,rfl⟩;obtain⟨i,m⟩:∃i,(w4.alloc (.deferred (some []))).alloc (.loop (d .ready none))=i:=⟨_,rfl⟩;have E:i.heap[w4.heap.size+1]?=some (.loop (d .ready none)):=by rw[<- m];have:=World.alloc_heap_new (w4.alloc (.deferred (some []))) (.loop (d .ready none));rwa [World.size_alloc] at this
 have C:i.heap[w4.heap.size]?=some (.deferred (some [])):=by rw[<- m];exact(Below.heap_alloc _ _ _ U2).trans (World.alloc_heap_new w4 _)
 have n:Below w4.heap.size w4 i:=by rw[<- m];exact((Below.refl _ w4).alloc (Nat.le_refl _) _).alloc U2 _
 have X:i.heap.size=w4.heap.size+2:=by rw[<- m];simp
 have S:Enters Tryz.prog 167:=enters_of Tryz.func167 U1 rfl
 refine⟨w4.heap.size+1,[{ target:=.collected w4.heap.size,args:=#[] }],i,{ target:=.fn (.func 167) lb,args:=#[.func (.yield (w4.heap.size+1)) #[] #[]] },i,167,
  #[.func (.yield (w4.heap.size+1)) #[] #[]]++lb,i,?_,?_,fun _ _=>trivial,?_,fun h=>(by cases h),?_⟩
 . rw[<- m,f];exact run_enterLoop_outer _ _ _ _ _
 . simp only[resolve,hg];simp[go_sem]
 . simp[invoke,go_sem,S _ _]
 . refine callsIn_wide.2 ((ad (w4.heap.size + 1) (fun k W => I k W /\ W.heap[w4.heap.size + 1]? = some (.loop (d .ready none)) /\ W.heap[w4.heap.size]? = some (.deferred (some []))) i n U0 U0
    (fun j A B ⟨z,h2,h3⟩ s=>⟨hI j A B z (s.mono U0),(s.block _ U0).trans h2,(s.block _ U0).trans h3⟩) ?_ ⟨hI 0 w4 i h0 n,E,C⟩).mono ?_)
   . rintro k r c W U ⟨hi,hl,hd⟩ hsz hrow;have y:w4.heap.size+1<W.heap.size:=(Array.getElem?_eq_some_iff.1 hl).1;have O:=run_yield (P:=Tryz.prog) (args:=(Dc k r 3 c)) hl (by rw [f];exact ae.symm);rw [f] at O;refine ⟨fn,_,assign,body,O,roundIn_of_wpIn M (aa (w4.heap.size+1) k r c W _ ?_)⟩;clear O
     . have s:=ab (w4.heap.size + 1) k r c;refine⟨_,run_beginRound hl (by rw[f]),?_⟩;have N:(W.putObj (w4.heap.size+1) (.loop { d .ready none with state:=.busy })).heap[w4.heap.size+1]?=some (.loop { d .ready none with state:=.busy }):=World.putObj_heap_same y;have L:Below (w4.heap.size+1) W (W.putObj (w4.heap.size+1) (.loop { d .ready none with state:=.busy })):=below_putObj (Below.refl _ _) (Nat.le_refl _) _;have T:=hrow.lt;(have q:Row (W.putObj (w4.heap.size+1) (.loop { d .ready none with state:=.busy })) w4.heap.size r c (nz (List.replicate 3 k)):=by have z:Row W w4.heap.size r c (nz (List.replicate 3 k)):=hrow.base U0;exact World.ownsRow.kept z (row:=some (w4.heap.size+1)) ⟨rfl,rfl,rfl,U2,fun b _ hne=>World.putObj_heap_other (fun e=>hne (congrArg some e))⟩ (.inr (fun e=>by simp[Value.ownBlock] at e;omega)));refine Code.wpIn_mono ?_ (s _ U (hI k _ _ hi (L.mono U0)) q);rintro e Z R ⟨rfl,hi3,hs3,hsm⟩;have x:R.heap[w4.heap.size+1]?=some (.loop { d .ready none with state:=.busy }):=(hsm _ (by simpa using y) U0).trans N;refine⟨_,_,run_endRound none x,rfl,⟨hI _ _ _ hi3 (below_putObj (Below.refl _ _) U0 _),?_,?_⟩,?_,?_⟩
       . refine(World.putObj_heap_same (Array.getElem?_eq_some_iff.1 x).1).trans ?_;rw[f];rfl
       . refine(World.putObj_heap_other U0).trans ((hsm _ so U0).trans ((World.putObj_heap_other U0).trans hd))
       . simpa using hs3
       . intro b n u H;exact(World.putObj_heap_other u).trans ((hsm b (by simpa using n) H).trans (World.putObj_heap_other u))
   . rintro e W2 ⟨⟨v,rfl⟩,hi,hl,hd⟩;have o:=run_endLoop (P:=Tryz.prog) hl (by rw[f];simp);(have V:(d .ready none).pending=none:=by rw[f]);rw[V] at o;exact⟨none,_,o,ac w4.heap.size _ (hI _ _ _ hi (below_putObj (l:=w4.heap.size+1) (Below.refl _ _) U0 _)) (Nat.le_refl _) ((World.putObj_heap_other U0).trans hd)⟩
def WtS(w:World)(Bo bo g k:Nat)(V:World):Prop:=V.cell? (zA Bo 0)=some (zS bo 4 4)/\Row V w.heap.size bo 4 (nz (cnts k))/\IntsAt V V.heap.size (zO g) (nz (List.replicate 3 k))
def WtsPost(w:World)(e:Ending)(w':World):Prop:=∃g:Nat,e=.returned (.tuple #[zS g 4 4,Y 0])/\IntsAt w' w'.heap.size (zO g) (nz [1,0,0,1])/\Below w.heap.size w w'
theorem eweights_c(G R ro cr:Nat)(w:World)(bc:w.cell? (zA G 0)=some (zL (some (zA R ro)) 3 cr))(bd:∀ j,j<3->w.cell? (zA R (ro+j))=some (Y 1)):
 zC 54 #[Da 2 1 3 G 1 1] w (WtsPost w):=by
 have HG:Hid (RowsAt w w.heap.size (zO G) [[1,1,1]]):=by
  refine fun _=>⟨G,0,rfl,World.block_lt_of_cell? w _ bc,fun i N=>?_⟩;obtain rfl:i=0:=by simpa using N
  refine⟨some (zA R ro),cr,bc,fun _=>⟨R,ro,rfl,World.block_lt_of_cell? w _ (bd 0 U0),fun j hj=>?_⟩⟩;have an:j<3:=hj;rw[bd j an];match j,an with
  |0,_=>rfl
  |1,_=>rfl
  |2,_=>rfl
 have C:=zH bc;have E:=zH bd;have HX:=zH (bx_new w (Cr 2 1 3 G 1 1) 32);obtain⟨i0,al,au,av,aw⟩:=qaF infoInt;have HI:=zH al;have ag:=zH au;have ah:=zH av;have ad:=zH (show i0.bytes*4<=281474976710656 by rw[aw];omega);clear bc bd al au av aw;refine(callsIn_wide (n:=0)).1 (callsIn_of_wp_marks Tryz.func54 rfl trivial (wpIn_wide.2 ?_));simp only[Tryz.ntmps54,List.size_toArray,List.length_cons,List.length_nil,Nat.reduceAdd,Nat.reduceSub,Array.replicate_succ,Array.replicate_zero,List.push_toArray,List.append_toArray,List.nil_append,List.cons_append];go_upto_region 1 with fail;generalize w.alloc (Dn 2 1 3 G 1 1)=W0 at *;have H:=zH HX.out.range;have HC:=zH (esize_c G W0 ((HG.out.keep HX.out.below).more HX.out.below.size));go_wp2_with (refine wpList_load_mid rfl 32 (.tmp 1) rfl w.heap.size 0 rfl (Cr 2 1 3 G 1 1) _ H.out Tryz.underlying32 rfl codeSize ?_);(with_reducible refine HC.out.mono ?_);rintro e r ⟨rfl,hb1⟩;have M:=zH (HX.out.grow hb1);clear hb1 HC HX H;clear W0;have c3:r.cell? (zA w.heap.size 3)=some (Y 3):=M.out.cell rfl;have aq:w.heap.size<=r.heap.size:=M.out.below.size;go_upto_region 5 with(refine wpList_make_full r rfl (.tmp 19) (.tmp 19) 23 rfl w.heap.size 3 i0 (Y 0) 1 Tryz.underlying23 HI.out ag.out ah.out .i64 .i64 4 4 4 rfl rfl rfl rfl ad.out U3 aq ?_;intro x aa ak);have aj:=qaL ak;have X:=Row.of_make aa;have ab:Hid (BX w (Cr 2 1 3 G 1 1) 32 (x.alloc (.cells #[zS r.heap.size 4 4] 23))):=(M.out.grow aj).grow ((Below.refl _ _).alloc (Nat.le_refl _) _);have m:Hid (Row (x.alloc (.cells #[zS r.heap.size 4 4] 23)) w.heap.size r.heap.size 4 (nz (cnts 0))):=X.below ((Below.refl x.heap.size x).alloc (Nat.le_refl _) _) X.lt.2;have af:Hid ((x.alloc (.cells #[zS r.heap.size 4 4] 23)).cell? (zA x.heap.size 0)=some (zS r.heap.size 4 4)):=cell_of_row _ _ 0 _ _ _ (heap_alloc_new _ _);have ba:r.heap.size<x.heap.size:=X.lt.2;have a5:x.heap.size<(x.alloc (.cells #[zS r.heap.size 4 4] 23)).heap.size:=U2;have a9:w.heap.size<r.heap.size:=M.out.2.2;generalize x.alloc (.cells #[zS r.heap.size 4 4] 23)=Z at *;clear aa ak aj X M c3 HI ag ah ad aq;generalize r.heap.size=d at *;generalize x.heap.size=v at *;clear r x;have H:=zH ab.out.range;have HW:=zH (ewalk_c (Cr 2 1 3 G 1 1) Z);go_wp2_with (refine wpList_load_mid rfl 32 (.tmp 1) rfl w.heap.size 0 rfl (Cr 2 1 3 G 1 1) _ H.out Tryz.underlying32 rfl codeSize ?_);(with_reducible refine HW.out.mono ?_);rintro e z ⟨rfl,HW4⟩;have a6:=zH HW4;have a7:z.heap.size=Z.heap.size+1:=by rw[HW4];simp
 have s:Hid (BX w (Cr 2 1 3 G 1 1) 32 z):=by rw[HW4];exact ab.out.grow ((Below.refl _ _).alloc (Nat.le_refl _) _)
 have U:Hid (Row z w.heap.size d 4 (nz (cnts 0))):=by rw[HW4];exact m.out.below ((Below.refl Z.heap.size Z).alloc (Nat.le_refl _) _) m.out.lt.2
 have O:Hid (z.cell? (zA v 0)=some (zS d 4 4)):=by rw[HW4];exact(((Below.refl Z.heap.size Z).alloc (Nat.le_refl _) _).cell (p:=(zA v 0)) a5).trans af.out
 have T:Hid (z.rangeAt Z.heap.size 0 (Cr 2 1 3 G 1 1)):=by rw[HW4];exact range_of_row (heap_alloc_new _ _)
 clear HW4 a6 HW H ab m af;generalize Z.heap.size=Bc at *;clear Z;go_upto_region 9 with fail;have a3:Bc<z.heap.size:=U0;have Q:Hid (WtI w v d 0 z):=⟨O.out,U.out,s.out.below⟩;have P:Hid (∀(l:Nat)(W:World),Below z.heap.size z W->z.heap.size<=l->CodeFar l d Bc G W):=fun l W hb hl=>by have l2:=World.block_lt_of_cell? w _ C.out;have l3:=World.block_lt_of_cell? w _ (E.out 0 U0);simp only at l2 l3;have hw:=s.out.below;have ai:=hw.trans (hb.mono hw.size);have bb:=hw.size;exact⟨U0,U0,range_keep_v T.out (hb.block Bc a3),U0,U0,R,ro,cr,U0,U0,(ai.cell (p:=(zA G 0)) l2).trans C.out,fun j hj=>(ai.cell (p:=(zA R (ro+j))) l3).trans (E.out j hj)⟩
 refine(wpIn_wide (n:=0)).1 (range_two z rfl rfl (WtI w v d) d U0 (fun k A B h hb=>h.keep hb U0 U0 U0) Q.out (fun l J W hb hl1 hl2 hJ hY h0=>walk1_c l d Bc G J W hJ hl1 (by have:=hb.size;omega) (P.out l W hb hl2) hY h0) (fun k g c=>{ tmps:=#[Da 2 1 3 G 1 1,zP w.heap.size,zL none 0 0,Y 0,Y 2,Y 0,zP v,undef,zS g 3 c,.tuple #[Y 2,Y 0],Da 2 1 3 G 1 1,.tuple #[Y 2,Y 0],Y 2,Y 0,Y 0,.bool false,undef,.pointer (some (zA w.heap.size 3)),Y 3,Y 4,zS d 4 4,Da 2 1 3 G 1 1,.func (.func 167) #[] #[zP Bc],Y (k:Int),zS g 3 c,undef,undef,undef,undef,undef,undef,undef,undef],defers:=[] }) ?_ ?_ ?_)
 . intro l k g c W K hK;have ar:∀(ρ:Operand->Value)(o:Oper),(∀c,o.op≠.defer c)->Oper.semAt (some l) ρ o=execOp ρ o:=fun ρ o h=>Oper.semAt_some l ρ o h;clear HG C E s U O T P Q;gi_wp2;exact hK
 . intro l k g c u hk N q;have ac:=cnts_step hk;(have a0:Hid (∀ V:World,IntsAt V V.heap.size (zO g) (nz (List.replicate 3 k))->zC 117 #[zS g 3 c] V fun e w'=>e=.returned (Y ((Dv.wt (List.replicate 3 k):Nat):Int))/\V=w'):=fun V hV=>by have:=eweight_c (List.replicate 3 k) (zO g) c V hV U2;rw [List.length_replicate] at this;exact this);generalize Dv.wt (List.replicate 3 k)=t at *;have L:=zH ac;have t0:(0:Int)<=(t:Int):=U0;(have t1:(t:Int)<4:=by have:=ac.1;omega);clear ac HG C E s U O T P Q;have ao:k<=2:=U0;clear hk;have S:=zH N;have I:Hid (WtS w v d g k u.drew):=⟨N.box,N.row.below (Below.refl _ u).drew N.row.lt.2,(q.below (Below.refl _ u).drew q.lt.2).ints q.lt.2⟩;clear N q;gi_step;refine qdK 7 7 (WtS w v d g k) [(0,0),(1,1),(2,2),(1,3),(0,4),(1,5),(1,6)] default (noBar_wide.inRound l) U1 U1 U1 I.out ?_;simp only [List.map_cons,List.map_nil,List.getD_cons_zero,List.getD_cons_succ];apply qbF rfl
   . intro V hV;have y:=hV.1;go_simp;rfl
   go_simp;apply qaM rfl
   . intro V;go_simp;rfl
   go_simp;apply qbE rfl
   . go_simp;exact⟨rfl,rfl⟩
   have a1:=zH (a0.out u.drew I.out.2.2);(with_reducible refine a1.out.mono ?_);rintro e w' ⟨rfl,rfl⟩;refine⟨_,rfl,I.out,?_⟩;go_simp;apply qaM rfl
   . intro V;go_simp;rfl
   go_simp;apply qbF rfl
   . intro V hV;(have y:V.cell? (zA d t)=some (Y 0):=by have:=hV.2.1.cell (j:=t) (by rw[qaA,cnts_len k ao];exact L.out.1);rw[qaC,L.out.2.1] at this;exact this);go_simp;rfl
   go_simp
   iterate 2
    apply qaM rfl
    . intro V
      go_simp
      rfl
    go_simp
   refine qbH ?_;show wpListIn _ _ _ _ _ _ _ _;have m:Hid (Row u.drew w.heap.size d 4 (nz (cnts k))):=I.out.2.1;have ax:Hid (Below w.heap.size w u.drew):=S.out.low.drew;(have y:u.drew.cell? (zA d t)=some (Y 0):=by have:=m.out.cell (j:=t) (by rw[qaA,cnts_len k ao];exact L.out.1);rw[qaC,L.out.2.1] at this;exact this);have f:=m.out.frozen t;(have ae:Hid (u.drew.cell? (zA v 0)=some (zS d 4 4)):=by obtain⟨h1,_,_⟩:=I.out;exact h1);have az:Hid (∀b,b≠d->(u.drew.setCell (zA d t) (Y 1)).heap[b]?=u.heap[b]?):=fun b hb=>Below.heap_setCell u.drew (zA d t) _ b hb;(have ay:Hid (WtI w v d (k+1) (u.drew.setCell (zA d t) (Y 1))):=by refine⟨(World.cell?_of_block (a:=(zA v 0)) (Below.heap_setCell u.drew (zA d t) _ v (by show v≠d;omega))).trans ae.out,?_,ax.out.setCell (p:=(zA d t)) (by show w.heap.size<=d;omega) _⟩;rw[<- L.out.2.2,<- qbC];exact m.out.set t 1);have ar:∀(ρ:Operand->Value)(o:Oper),(∀c,o.op≠.defer c)->Oper.semAt (some l) ρ o=execOp ρ o:=fun ρ o h=>Oper.semAt_some l ρ o h;(repeat(first|go_values|gi_guarded|gi_step|gi_upon));exact⟨rfl,ay.out,U2,fun b _ hb=>az.out b hb⟩
 . intro D W N hD hd;have y:=N.box;have S:=zH N;have a2:Hid (w.heap.size<z.heap.size):=s.out.2.2;clear HG C E s U O T P Q;go_wp2_with fail;refine⟨U2,.inl ⟨_,_,rfl,run_takeDeferred hd,?_⟩⟩;have a4:=below_putObj (Below.refl D W) (Nat.le_refl D) (.deferred none);have a8:=a2.out;have ap:=S.out.row.below a4 U0;exact⟨_,results_tmp2 rfl _ _ _,d,rfl,ap.ints ap.lt.2,below_putObj S.out.low U0 _⟩
def nzIx:List Nat->Nat->Int
 |[],_=>-1
 |x :: r,k=>if x=0 then nzIx r (k+1) else k
theorem nzIx_step{v:List Nat}{k:Nat}(b:k<v.length):nzIx (v.drop k) k=if v.getD k 0=0 then nzIx (v.drop (k+1)) (k+1) else(k:Int):=by
 rw[List.drop_eq_getElem_cons b];have:v.getD k 0=v[k]:=by simp[List.getD,b]
 rw[this];rfl
def RelNx(v:List Nat)(w:World)(r:Int)(v8:Value)(wr:World):Prop:=∃k:Nat,k<=v.length/\v8=Y k/\nzIx (v.drop k) k=r/\wr=w
theorem indexnz_c(f:Nat)(C:∀ (x:Int) (W:World),zC f #[Y x] W fun e w'=>e=.returned (.bool (x != 0))/\W=w')(D:∀ (args:Array Value) (W:World),(callFunc f args).run Tryz.prog W=.ok (.enter f args) W)(v:List Nat)(A:Option Addr)(c:Nat)(w:World)(B:IntsAt w w.heap.size A (nz v))(E:v.length<=1000):
 zC 99 #[zL A v.length c,.func (.func f) #[] #[]] w fun e w'=>e=.returned (Y (nzIx v 0))/\w=w':=by
 have l:=zH B;have n:=zH C;have g:Hid (RelNx v w (nzIx v 0) (Y ((0:Nat):Int)) w):=⟨0,U0,rfl,rfl,rfl⟩;clear B C;generalize nzIx v 0=r at *;go_enter Tryz.func99,Tryz.ntmps99;go_wp2_with fail;go_loopw [8] (fun v8 wr=>RelNx v w r v8 wr) (fun v8 _=>v.length-(intOf v8).toNat);case atStart=>exact g.out
 case round =>
  obtain⟨k,u,rfl,i,rfl⟩:=hrel;clear g;by_cases h:k<v.length
  . obtain ⟨b,o,rfl,t,p⟩ := l.out.at_ (k := k) (by rw [qaA];exact h);rw [qaC] at p;have y:(0:Int)<=(k:Int):=U0;have z:(k:Int)<(v.length:Int):=U0;have q:IntKind.i64.wrap ((k:Int)+1)=(k:Int)+1:=IntWalk.i64_in _ U0;(have d:Hid ((if v.getD k 0=0 then nzIx (v.drop (k+1)) (k+1) else (k:Int))=r):=by rw [<- nzIx_step h];exact i);clear i;generalize v.getD k 0=x at *;have m:=zH (n.out (x:Int) wr);go_wp2_with fail;refine m.out.mono ?_;rintro e w' ⟨rfl,rfl⟩;by_cases j:x=0
    . rw[if_pos j] at d;subst j;go_wp2_with fail;go_roundw;case rel=>exact⟨k+1,U0,gn,d.out,rfl⟩
      case measure=>exact mE
    . rw[if_neg j] at d;(have s:((x:Int) != 0)=true:=by rw[bne_iff_ne];omega);go_wp2_with fail;go_ret;have e:=d.out;exact⟨by rw[<- e];rfl,rfl⟩
  . (obtain rfl:k=v.length:=by omega);(have d:Hid ((-1:Int)=r):=by rw[List.drop_eq_nil_of_le (Nat.le_refl _)] at i;exact i);clear i;go_wp2_with fail;go_ret;have e:=d.out;exact⟨by rw[<- e];rfl,rfl⟩
theorem itself1_c(x:Int)(W:World):zC 56 #[Y x] W fun e w'=>e=.returned (.bool (x != 0))/\W=w':=by go_enter Tryz.func56,Tryz.ntmps56;go_wp2_with fail;go_ret;exact⟨rfl,rfl⟩
theorem columns1_c(x:Int)(W:World):zC 100 #[Y x] W fun e w'=>e=.returned (.bool (x != 0))/\W=w':=by go_enter Tryz.func100,Tryz.ntmps100;go_wp2_with fail;go_ret;exact⟨rfl,rfl⟩
theorem containsnz_c(v:List Nat)(A:Option Addr)(c:Nat)(w:World)(d:IntsAt w w.heap.size A (nz v))(f:v.length<=1000):
 zC 55 #[zL A v.length c,.func (.func 56) #[] #[]] w fun e w'=>e=.returned (.bool (decide (0<=nzIx v 0)))/\w=w':=by have b:=zH (indexnz_c 56 itself1_c (enters_of Tryz.func56 U1 rfl) v A c w d f);clear d;generalize nzIx v 0=r at *;go_enter Tryz.func55,Tryz.ntmps55;go_wp2_with fail;refine b.out.mono ?_;rintro e w' ⟨rfl,rfl⟩;go_wp2_with fail;go_ret;exact⟨rfl,rfl⟩
theorem rep_code{r low:Int}{G:Nat}{w W:World}(h:SB w w.heap.size (repC r low G) W):W.rangeAt w.heap.size 1 (Cr 2 1 3 G 1 1):=
 h.sub 1 _ fun j hj=>by
  have b:j<5:=hj
  match j,b with
  |0,_=>rfl
  |1,_=>rfl
  |2,_=>rfl
  |3,_=>rfl
  |4,_=>rfl
theorem itself_15(G R C D:Nat)(w:World)(A:w.cell? (zA G 0)=some (zL (some (zA R C)) 3 D))(B:∀j,j<3->w.cell? (zA R (C+j))=some (Y 1)):
 zC 28 #[.agg (repC 15 4 G).toArray] w (BPost false w):=by
 have c:=zH (sb_new w (repC 15 4 G));have d:=zH A;have f:=zH B;clear A B;go_enter Tryz.func28,Tryz.ntmps28;go_upto_region 1 with fail;generalize w.alloc (.cells (repC 15 4 G).toArray 40)=q at *;have y:q.cell? (zA w.heap.size 0)=some (Y 15):=c.out.cell rfl;have h:Hid (q.rangeAt w.heap.size 1 (Cr 2 1 3 G 1 1)):=rep_code c.out;have u:=World.block_lt_of_cell? w _ d.out;have v:=World.block_lt_of_cell? w _ (f.out 0 U0);simp only at u v;have t:=zH (eweights_c G R C D q ((c.out.2.1.cell (p:=(zA G 0)) u).trans d.out) (fun j k=>(c.out.2.1.cell (p:=(zA R (C+j))) v).trans (f.out j k)));go_wp2_with (refine wpList_load_mid rfl 32 (.tmp 113) rfl w.heap.size 1 rfl (Cr 2 1 3 G 1 1) _ h.out Tryz.underlying32 rfl codeSize ?_);refine t.out.mono ?_;rintro e n ⟨g,rfl,hI,m⟩;have i:=zH (c.out.grow m);have x:=zH hI;clear m hI t h y c;have z:n.cell? (zA w.heap.size 6)=some (Y 4):=i.out.cell rfl
 have s:Hid (zC 55 #[zL (some (zA g 1)) 3 3,.func (.func 56) #[] #[]] n fun e w'=>e=.returned (.bool (decide (0<=nzIx [0,0,1] 0)))/\n=w'):=containsnz_c [0,0,1] (some (zA g 1)) 3 n (fun _=>by
  obtain⟨b,o,r,m,k⟩:=x.out (by rw[qaA];decide)
  injection r with r
  injection r with e1 e2
  subst e1
  subst e2
  refine⟨g,1,rfl,m,fun j hj3=>?_⟩
  have l:j<3:=hj3
  match j,l with
  |0,_=>exact k 1 (by rw[qaA];decide)
  |1,_=>exact k 2 (by rw[qaA];decide)
  |2,_=>exact k 3 (by rw[qaA];decide)) U2
 go_wp2_with fail;refine s.out.mono ?_;rintro e w' ⟨rfl,rfl⟩;have hd:decide (0<=nzIx [0,0,1] 0)=true:=rfl;rw[hd];clear hd s;go_wp2_with fail;go_ret;exact⟨rfl,i.out.2.1⟩
section
variable {P:Program} {S:World->Prop} {K:Act->World->Prop} {o:Oper} {r:List (Nat × Oper)} {a:Act} {w:World}
theorem qcA(j:o.guard=none)(f:TypeId)(x y:Operand)(l:o.op=.store f x y)(b:Nat)(t:TypeId)(c d:Array Value)(n:a.eval x=zP b)(p:a.eval y=.agg d)(i:w.heap[b]?=some (.cells c t (0,0)))(k:(P.info? f).map (·.size)=some d.size)(m:c.size=d.size)(g:d.all (·.oneCell')=true)(h:wpMixF P S K r (a.put o.dst undef) (w.setRow b d)):wpMixF P S K ((3,o):: r) a w:=
 mixf_store j (by
  unfold execOp
  simp only[l,n,p,Instr.storeAt,Instr.sureAddr,Sem.run_bind,Sem.run_pure,Result.andThen_ok,run_storeVar_row w b t f c d i k m g]) h
end
theorem clone_nil(w:World):zC 74 #[zL none 0 0] w fun e w'=>e=.returned (zL none 0 0)/\w=w':=by have b:∀(W:World),(binOp .eql 23 (zL none 0 0) (zL none 0 0)).run Tryz.prog W=.ok (.bool true) W:=fun W=>Lib.run_eql_slice_nil W 23 3 none 0 0 0 0 Tryz.underlying23;go_enter Tryz.func74,Tryz.ntmps74;go_wp2_with fail;go_ret;exact⟨rfl,rfl⟩
theorem own_nil(p m:Int)(w:World):
 zC 201 #[.agg #[Y p,Y m,zL none 0 0]] w fun e w'=>e=.returned (.agg #[Y p,Y m,zL none 0 0])/\Below w.heap.size w w':=by
 have d:Hid (Below w.heap.size w ((w.alloc (.cells #[Y p,Y m,zL none 0 0] 29)).alloc (Cz))):=((Below.refl _ _).alloc (Nat.le_refl _) _).alloc U2 _;have b:Hid (((w.alloc (.cells #[Y p,Y m,zL none 0 0] 29)).alloc (Cz)).heap[w.heap.size]?=some (.cells (Dl p m).toArray 29 (0,0))):=(Below.heap_alloc _ _ _ U2).trans (heap_alloc_new _ _);have g:Hid (((w.alloc (.cells #[Y p,Y m,zL none 0 0] 29)).alloc (Cz)).heap[w.heap.size+1]?=some (Cz)):=alloc_at U2 _;go_enter Tryz.func201,Tryz.ntmps201;go_wp2_with fail;generalize (w.alloc (.cells #[Y p,Y m,zL none 0 0] 29)).alloc (Cz)=c at *;(with_reducible refine(clone_nil c).mono ?_);rintro e q ⟨rfl,rfl⟩;have o:c.cell? (zA w.heap.size 2)=some (zL none 0 0):=cell_of_row _ _ 2 _ _ _ b.out;have n:c.frozen? (zA w.heap.size 2)=false:=by simp[World.frozen?,b.out]
 have l:=zH (heap_set_same b.out 2 (zL none 0 0));have k:=zH ((Below.heap_setCell c (zA w.heap.size 2) (zL none 0 0) (w.heap.size+1) (by show w.heap.size+1≠w.heap.size;omega)).trans g.out);have f:=zH (d.out.setCell (p:=(zA w.heap.size 2)) (Nat.le_refl _) (zL none 0 0));go_upto_region 2 with fail;generalize c.setCell (zA w.heap.size 2) (zL none 0 0)=j at *;clear o n;have i:Hid (j.rangeAt w.heap.size 0 (Dl p m)):=range_of_row l.out;have h:Hid ((j.setRow (w.heap.size+1) #[Y p,Y m,zL none 0 0]).heap[w.heap.size+1]?=some (.cells #[Y p,Y m,zL none 0 0] 29 (0,0))):=setRow_same _ _ _ _ _ k.out;go_wp2_with (first|(refine wpList_load_mid rfl 29 (.tmp 1) rfl w.heap.size 0 rfl (Dl p m) _ i.out Tryz.underlying29 rfl fieldSize ?_)|(refine wpList_store_row rfl 29 (.tmp 2) (.tmp 7) rfl j (w.heap.size+1) 29 #[Y 0,Y 0,zL none 0 0] #[Y p,Y m,zL none 0 0] rfl rfl k.out fieldSize rfl sc ?_));refine bodyPost_ret (results_cell_row (P:=Tryz.prog) rfl _ _ (w.heap.size+1) 29 #[Y p,Y m,zL none 0 0] (0,0) _ rfl h.out Tryz.underlying29 rfl fieldSize) rfl ?_;exact⟨rfl,qaR f.out U0 _⟩
theorem of_nil(p m u:Int)(A:Option Addr)(n c:Nat)(w:World):
 zC 157 #[.agg #[Y p,Y m,zL none 0 0],Cy u A n c,Y 0] w fun e w'=>e=.returned (.tuple #[.agg #[Y p,Y m,zL none 0 0,Y u,zL A n c],Y 0])/\Below w.heap.size w w':=by
 have k:Hid (BoxC w (Dl p m) (De u A n c) (Cd) (((w.alloc (.cells #[Y p,Y m,zL none 0 0] 29)).alloc (Cp u A n c)).alloc (Cc))):=boxC w _ _ _;go_enter Tryz.func157,Tryz.ntmps157;go_upto_region 3 with fail;generalize ((w.alloc (.cells #[Y p,Y m,zL none 0 0] 29)).alloc (Cp u A n c)).alloc (Cc)=g at *;have i:Hid (∀W,LSt g W->W.rangeAt w.heap.size 0 (Dl p m)):=fun W f=>range_of_row (k.out.keep f).k0;have l:Hid (∀W,LSt g W->W.cell? (zA (w.heap.size+1) 0)=some (Y u)/\W.cell? (zA (w.heap.size+1) 1)=some (zL A n c)):=fun W f=>⟨cell_of_row _ _ 0 _ _ _ (k.out.keep f).k1,cell_of_row _ _ 1 _ _ _ (k.out.keep f).k1⟩;have b:Hid (LSt g g.drew):=(Below.refl _ _).drew;refine qbM 7 (LSt g) [(true,0),(true,2),(true,3),(true,4),(true,5),(false,1),(true,6)] default U1 U1 (fun _ _ d _ _ h=>by cases d<;>exact h) b.out ?_;simp only[List.map_cons,List.map_nil,List.getD_cons_zero,List.getD_cons_succ];refine qcS rfl 29 (.tmp 3) rfl w.heap.size 0 rfl (Dl p m) _ i.out Tryz.underlying29 rfl fieldSize ?_;go_simp
 iterate 4
  apply qcH rfl
  . intro W f
    obtain⟨s,t⟩:=l.out W f
    go_simp
    rfl
  go_simp
 apply qcE rfl
 . go_simp;exact⟨rfl,rfl⟩
 with_reducible refine(own_nil p m g.drew).mono ?_
 rintro e r ⟨rfl,hb1⟩;refine⟨_,rfl,b.out.trans hb1,?_⟩;go_simp;apply qcH rfl
 . intro W f;go_simp;rfl
 go_simp;refine qeJ ?_;have j:=zH (k.out.keep (b.out.trans hb1));have o:=zH j.out.k2;have q:=zH (j.out.set [Y p,Y m,zL none 0 0,Y u,zL A n c]);clear hb1;go_wp2_with (refine wpList_store_row rfl 32 (.tmp 6) (.tmp 18) rfl r (w.heap.size+1+1) 32 (Cb) #[Y p,Y m,zL none 0 0,Y u,zL A n c] rfl rfl o.out codeSize rfl sc ?_);refine bodyPost_ret (results_row_one (P:=Tryz.prog) rfl _ _ (w.heap.size+1+1) 32 #[Y p,Y m,zL none 0 0,Y u,zL A n c] (0,0) _ _ rfl rfl q.out.k2 Tryz.underlying32 rfl codeSize) rfl ?_;exact⟨rfl,q.out.below⟩
def Num(w:World)(B:Nat)(v:Value)(l:List Nat):Prop:=w.ownsRow B 3 1 v l.length ((nz l).map (Value.int .i64))
section
variable {w w':World} {B:Nat} {v:Value} {l:List Nat}
theorem Num.nil(w:World)(B:Nat):Num w B (zL none 0 0) []:=World.ownsRow_nil _ _ _ _
theorem Num.grow(h:Num w B v l)(b:Below w.heap.size w w'):Num w' B v l:=
 World.ownsRow.kept h (row:=none) ⟨b.os,b.tape,b.output,b.size,fun j hj _=>b.block j hj⟩ (by cases v.ownBlock<;>simp)
theorem Num.slice(h:Num w B v l):∃VA ck,v=zL VA l.length ck:=own_slice h
theorem Num.up{b:Option Addr}{c:Nat}(h:Num w B (zL b l.length c) l):IntsUp w B b (nz l):=ints_of_own h rfl
theorem Num.step{w2:World}{v':Value}{x:Nat}(h:w2.ownsRow B 3 1 v' (l.length+1) ((nz l).map (Value.int .i64)++[Y (x:Int)])):Num w2 B v' (l++[x]):=by unfold Num;rw[List.length_append,nz,List.map_append,List.map_append];exact h
end
end Go.Proofs.YtndipkplnkfoeaaGreat
