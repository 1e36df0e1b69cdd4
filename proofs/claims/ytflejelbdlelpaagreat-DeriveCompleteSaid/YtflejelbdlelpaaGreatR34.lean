/- Parts of the proof. -/
import Derived.Test.YtflejelbdlelpaaGreatR33
set_option maxRecDepth 100000
set_option maxHeartbeats 8000000
namespace Go.Proofs.YtflejelbdlelpaaGreat
open Go.RowKit Pln Go.Proofs.Tryz
def cntL(WL:LL)(n k:Nat):LN:=(List.range (n+1)).map fun t=>((WL.take k).filter fun u=>Dv.wt u==t).length
theorem cntL_len(b:LL)(n k:Nat):(cntL b n k).length=n+1:=by simp[cntL]
theorem cntL_at{b:LL}{n k t:Nat}(c:t<=n):(cntL b n k).getD t 0=((b.take k).filter fun u=>Dv.wt u==t).length:=by unfold cntL;simp[List.getD,show t<n+1 by omega]
theorem cntL_zero(b:LL)(n:Nat):cntL b n 0=List.replicate (n+1) 0:=by unfold cntL;refine List.ext_getElem U2 fun j h1 h2=>?_;simp
theorem cntL_step{f:LL}{n k:Nat}(g:k<f.length)(i:Dv.wt (f.getD k [])<=n):(cntL f n k).set (Dv.wt (f.getD k [])) ((cntL f n k).getD (Dv.wt (f.getD k [])) 0+1)=cntL f n (k+1):=by
 have c:f.getD k []=f[k]:=by simp[List.getD,g]
 rw[cntL_at i];refine List.ext_getElem (by simp[cntL]) fun j h1 h2=>?_;have d:j<n+1:=by simpa[cntL] using h2
 have b:∀(k:Nat)(h:j<(cntL f n k).length),(cntL f n k)[j]=((f.take k).filter fun u=>Dv.wt u==j).length:=fun k h=>by simp[cntL]
 rw[List.getElem_set,b,b,List.take_add_one,List.getElem?_eq_getElem g,List.filter_append,List.length_append,c];by_cases e:Dv.wt f[k]=j
 . rw[if_pos e];subst e;simp
 . rw[if_neg e];simp[e]
theorem cntL_le(c:LL)(n k t:Nat):(cntL c n k).getD t 0<=c.length:=by
 by_cases b:t<=n
 . rw[cntL_at b];refine Nat.le_trans (List.length_filter_le _ _) ?_;rw[List.length_take];omega
 . (have:(cntL c n k).getD t 0=0:=by simp[List.getD,cntL,show ¬t<n+1 by omega]);omega
theorem range_wl(n:Nat)(WL:LL)(w4:Wo){g:Operand}{ps:Array Tmp}{assign body:Code}{Q:Exit->Act->Wo->Prop}{a:Act}{lb:Array Value}(hg:a.eval g=.func (.func 158) #[] lb)(ae:ps.size=2)(I:Nat->Wo->Prop)(bo:Nat)(af:bo<w4.heap.size)(hI:∀ k A B,I k A->Below w4.heap.size A B->I k B)(h0:I 0 w4)(ad:∀ (l:Nat)(J:Nat->Wo->Prop)(W:Wo),zB w4 W->l<W.heap.size->w4.heap.size<=l->(∀ j A B,J j A->Below W.heap.size A B->J j B)->RndX l bo W.heap.size n WL J->J 0 W->zC 158 (#[.func (.yield l) #[] #[]]++lb) W fun e w'=>(∃ v,e=.returned v)/\J WL.length w')(a₁:Nat->Nat->Nat->Act)(aa:∀ (l k g c:Nat)(W:Wo)(K:Act->Wo->Prop),K (a₁ k g c) W->assign.wpIn (Fence.wide.inRound l) 0 prog (Exit.then K (fun _ _ _=>False)) { tmps:=(ps.zip (Cl k g n c)).foldl (fun t (p,v)=>t.setIfInBounds p v) a.tmps,defers:=[] } W)(ab:∀ (l k g c:Nat)(W2:Wo),k<WL.length->I k W2->Row W2 w4.heap.size g c (nz (WL.getD k []))->body.wpIn (Fence.wide.inRound l) 0 prog (RdPost I bo k W2) (a₁ k g c) W2)(ac:∀ (D:Nat)(W:Wo),I WL.length W->w4.heap.size<=D->W.heap[D]?=some (.deferred (some []))->Q .normal { a with defers:={ target:=.collected D,args:=#[] } :: a.defers } W):
 (Code.rangeFunc g ps assign body).wpIn Fence.wide 0 prog Q a w4:=by
 refine wpIn_rangeFunc ?_;intro fn N;obtain⟨d,f⟩:∃d:LoopState->Option Code->Loop,d=fun st pe=>{ state:=st,pending:=pe,fn,tmps:=a.tmps,params:=ps,assign,body,defers:=w4.heap.size }:=⟨_,rfl⟩;obtain⟨i,m⟩:∃i,(w4.alloc (.deferred (some []))).alloc (.loop (d .ready none))=i:=⟨_,rfl⟩;have H:i.heap[w4.heap.size+1]?=some (.loop (d .ready none)):=by rw[<- m];have:=World.alloc_heap_new (w4.alloc (.deferred (some []))) (.loop (d .ready none));rwa [World.size_alloc] at this
 have E:i.heap[w4.heap.size]?=some (.deferred (some [])):=by rw[<- m];exact(Below.heap_alloc _ _ _ U2).trans (World.alloc_heap_new w4 _)
 have o:zB w4 i:=by rw[<- m];exact((Below.refl _ w4).alloc zn _).alloc U2 _
 have Z:i.heap.size=w4.heap.size+2:=by rw[<- m];simp
 have T:Enters prog 158:=enters_of func158 U1 rfl
 refine⟨w4.heap.size+1,[{ target:=.collected w4.heap.size,args:=#[] }],i,{ target:=.fn (.func 158) lb,args:=#[.func (.yield (w4.heap.size+1)) #[] #[]] },i,158,
  #[.func (.yield (w4.heap.size+1)) #[] #[]]++lb,i,?_,?_,fun _ _=>trivial,?_,fun h=>(by cases h),?_⟩
 . rw[<- m,f];exact run_enterLoop_outer _ _ _ _ _
 . simp only[resolve,hg];simp[go_sem]
 . simp[invoke,go_sem,T _ _]
 . refine callsIn_wide.2 ((ad (w4.heap.size + 1) (fun k W => I k W /\ W.heap[w4.heap.size + 1]? = some (.loop (d .ready none)) /\ W.heap[w4.heap.size]? = some (.deferred (some []))) i o U0 U0
    (fun j A B ⟨C,h2,h3⟩ u=>⟨hI j A B C (u.mono U0),(u.block _ U0).trans h2,(u.block _ U0).trans h3⟩) ?_ ⟨hI 0 w4 i h0 o,H,E⟩).mono ?_)
   . rintro k s c W V ⟨hi,hl,hd⟩ hsz hrow;have z:w4.heap.size+1<W.heap.size:=(Array.getElem?_eq_some_iff.1 hl).1;have R:=run_yield (P:=prog) (args:=(Cl k s n c)) hl (by rw [f];exact ae.symm);rw [f] at R;refine ⟨fn,_,assign,body,R,roundIn_of_wpIn N (aa (w4.heap.size+1) k s c W _ ?_)⟩;clear R
     . have u:=ab (w4.heap.size + 1) k s c;refine⟨_,run_beginRound hl (by rw[f]),?_⟩;have O:(W.putObj (w4.heap.size+1) (.loop { d .ready none with state:=.busy })).heap[w4.heap.size+1]?=some (.loop { d .ready none with state:=.busy }):=World.putObj_heap_same z;have M:Below (w4.heap.size+1) W (W.putObj (w4.heap.size+1) (.loop { d .ready none with state:=.busy })):=qfZ zV zn _;have U:=hrow.lt;(have r:Row (W.putObj (w4.heap.size+1) (.loop { d .ready none with state:=.busy })) w4.heap.size s c (nz (WL.getD k [])):=by have C:Row W w4.heap.size s c (nz (WL.getD k [])):=hrow.base U0;exact World.ownsRow.kept C (row:=some (w4.heap.size+1)) ⟨rfl,rfl,rfl,U2,fun b _ hne=>World.putObj_heap_other (fun e=>hne (congrArg some e))⟩ (.inr (fun e=>by simp[Value.ownBlock] at e;omega)));refine Code.wpIn_mono ?_ (u _ V (hI k _ _ hi (M.mono U0)) r);rintro e a3 S ⟨rfl,hi3,hs3,hsm⟩;have y:S.heap[w4.heap.size+1]?=some (.loop { d .ready none with state:=.busy }):=(hsm _ (by simpa using z) U0).trans O;refine⟨_,_,run_endRound none y,rfl,⟨hI _ _ _ hi3 (qfZ zV U0 _),?_,?_⟩,?_,?_⟩
       . refine(World.putObj_heap_same (Array.getElem?_eq_some_iff.1 y).1).trans ?_;rw[f];rfl
       . refine(World.putObj_heap_other U0).trans ((hsm _ so U0).trans ((World.putObj_heap_other U0).trans hd))
       . simpa using hs3
       . intro b o x L;exact(World.putObj_heap_other x).trans ((hsm b (by simpa using o) L).trans (World.putObj_heap_other x))
   . rintro e W2 ⟨⟨v,rfl⟩,hi,hl,hd⟩;have q:=run_endLoop (P:=prog) hl (by rw[f];simp);(have X:(d .ready none).pending=none:=by rw[f]);rw[X] at q;exact⟨none,_,q,ac w4.heap.size _ (hI _ _ _ hi (qfZ (l:=w4.heap.size+1) zV U0 _)) zn ((World.putObj_heap_other U0).trans hd)⟩
def WkS2(w:Wo)(Bo bo g n1:Nat)(L:LN)(u:LN)(V:Wo):Prop:=V.cell? (zA Bo 0)=some (zS bo n1 n1)/\Row V w.heap.size bo n1 (nz L)/\zI V (zO g) (nz u)
structure WtJ (w:Wo) (Bo bo n1 n:Nat) (WL:LL) (k:Nat) (W:Wo):Prop where
 box:W.cell? (zA Bo 0)=some (zS bo n1 n1)
 row:Row W w.heap.size bo n1 (nz (cntL WL n k))
 low:zB w W
theorem WtJ.keep{w:Wo}{b bo g n k B:Nat}{f:LL}{W d:Wo}(h:WtJ w b bo g n f k W)(c:Below B W d)(i:b<B)(j:bo<B)(l:w.heap.size<=B):WtJ w b bo g n f k d:=
 ⟨(c.cell (p:=(zA b 0)) i).trans h.box,h.row.below c j,h.low.trans (c.mono l)⟩
def WtPost(w:Wo)(n:Nat)(L:LN)(ok:Prop)(e:Ending)(w':Wo):Prop:=
 ((∃z:Int,z≠0/\¬ok/\e=.returned (.tuple #[zL none 0 0,Y z]))\/∃g:Nat,ok/\e=.returned (.tuple #[zS g (n+1) (n+1),Y 0])/\w.heap.size<=g/\zI w' (zO g) (nz L))/\zB w w'
theorem wl_len{O:Ops}{q:Nat}:∀ (rs:LL)(u:LN),(wl O q rs u).length=q ^ rs.length
 |[],u=>rfl
 |r :: rs,u=>by
   show((List.range q).flatMap _).length=_
   rw[List.length_flatMap]
   simp only[wl_len rs]
   rw[List.map_const',List.sum_replicate_nat,List.length_range,List.length_cons,Nat.pow_succ,Nat.mul_comm]
theorem wl_ok{q n:Nat}{O:Ops}(h:Al.Fld q O):∀ (rs:LL)(u:LN),(∀ r∈rs,Dv.Ok q n r)->Dv.Ok q n u->∀ x∈wl O q rs u,Dv.Ok q n x
 |[],u,_,hu,x,hx=>by
   rw[List.mem_singleton.1 hx]
   exact hu
 |r :: rs,u,hr,hu,x,hx=>by
   obtain⟨a,ha,hx⟩:=List.mem_flatMap.1 hx
   exact wl_ok h rs _ (fun r' h'=>hr r' (List.mem_cons_of_mem _ h')) (mix_ok h (List.mem_range.1 ha) hu (hr r (List.mem_cons_self ..))) x hx
theorem weights_c(p m:Int)(mod:LI)(n:Nat)(rows:LL)(Am Ag:OA)(cm cg:Nat)(w:Wo)(hM:zI w Am mod)(bz:mod.length<=1000000)(hA:zR w Ag (nzs rows))(b0:rows.length<=1000)(hf:fieldOK p m mod=true)(hz:codeZ p m mod (n:Int) (nzs rows)=0)(hn:1<=n)(b1:n<=64)(bo:∀ r∈rows,Dv.Ok (p.toNat ^ m.toNat) n r):
 zC 48 #[C7 p m Am mod.length cm n Ag rows.length cg] w (WtPost w n (cntL (wl (opsT p.toNat m.toNat (lOf p m mod)) (p.toNat^m.toNat) rows (List.replicate n 0)) n (wl (opsT p.toNat m.toNat (lOf p m mod)) (p.toNat^m.toNat) rows (List.replicate n 0)).length) ((p.toNat^m.toNat)^rows.length<=65536)):=by
 have al:=Al.fld_of (field_ft hf);have H:(wl (opsT p.toNat m.toNat (lOf p m mod)) (p.toNat^m.toNat) rows (List.replicate n 0)).length=(p.toNat^m.toNat)^rows.length:=wl_len _ _;have bi:zK (∀u∈wl (opsT p.toNat m.toNat (lOf p m mod)) (p.toNat^m.toNat) rows (List.replicate n 0),u.length=n):=fun u hu=>(wl_ok al rows _ bo ⟨List.length_replicate,fun x hx=>by rw[List.eq_of_mem_replicate hx];have:=al.q1;omega⟩ u hu).1;have ai:zK (∀W,zB w W->_):=fun W hW=>size_c p m mod n rows Am Ag cm cg W ((hM.keep hW).more hW.size) bz ((hA.keep hW).more hW.size) b0 hf hz
 have aj:zK ((p.toNat^m.toNat)^rows.length<=65536->∀(l q U:Nat)(J:Nat->Wo->Prop)(W:Wo),(∀j A B,J j A->Below W.heap.size A B->J j B)->l<W.heap.size->q<W.heap.size->CodeW l q U p m mod n rows Am Ag cm cg W->RndX l q W.heap.size n (wl (opsT p.toNat m.toNat (lOf p m mod)) (p.toNat^m.toNat) rows (List.replicate n 0)) J->J 0 W->zC 158 #[.func (.yield l) #[] #[],zP U] W fun e w'=>(∃v,e=.returned v)/\J (wl (opsT p.toNat m.toNat (lOf p m mod)) (p.toNat^m.toNat) rows (List.replicate n 0)).length w'):=fun s l q U J W h1 h2 h3 h4 h5 h6=>
  walkX_c l q U p m mod n rows Am Ag cm cg J W h1 h2 h3 h4 bz b0 hf hz hn b1 bo (by rw[H];exact s) h5 h6
 obtain⟨d,a2⟩:∃d,d=n+1:=⟨_,rfl⟩;have T:=zH a2;have bx:(n:Int)+1=(d:Int):=U0;have HX:=zH (bx_new w (C3 p m Am mod.length cm n Ag rows.length cg) 27);have HM:=zH hM;have HA:=zH hA;obtain⟨i0,a1,a7,a8,a9⟩:=qaF infoInt;have HI:=zH a1;have au:=zH a7;have av:=zH a8;have an:=zH (show i0.bytes*d<=281474976710656 by rw[a9];omega);clear a1 a7 a8 a9 hM hA hf hz bo al a2;rw[<- H] at aj ai ⊢;generalize wl (opsT p.toNat m.toNat (lOf p m mod)) (p.toNat^m.toNat) rows (List.replicate n 0)=i at *;clear H;refine(callsIn_wide (n:=0)).1 (callsIn_of_wp_marks func48 rfl trivial (wpIn_wide.2 ?_));simp only[ntmps48,List.size_toArray,List.length_cons,List.length_nil,Nat.reduceAdd,Nat.reduceSub,Array.replicate_succ,Array.replicate_zero,List.push_toArray,List.append_toArray,List.nil_append,List.cons_append];go_upto_region 1 with fail;generalize w.alloc (C8 p m Am mod.length cm n Ag rows.length cg)=W0 at *;have C:=zH HX.o.range;have HC:=zH (ai.o W0 HX.o.below);by_cases s:i.length<=65536;rotate_left
 . rw[if_neg s,if_neg s] at HC;go_wp2_with (refine wpList_load_mid rfl 27 (.tmp 1) rfl w.heap.size 0 rfl (C3 p m Am mod.length cm n Ag rows.length cg) _ C.o underlying27 rfl codeSize ?_);go_fit HC.o;rintro e z ⟨rfl,hb1⟩;have E:=zH (HX.o.grow hb1);clear hb1 HC HX C;go_wp2_with fail;exact⟨_,results_tmp2 rfl _ _ _,.inl ⟨8,dc,s,rfl⟩,E.o.below⟩
 rw[if_pos s,if_pos s] at HC;have I:=zH (aj.o s);clear aj ai;generalize ((i.length:Nat):Int)=sz at *;go_wp2_with (refine wpList_load_mid rfl 27 (.tmp 1) rfl w.heap.size 0 rfl (C3 p m Am mod.length cm n Ag rows.length cg) _ C.o underlying27 rfl codeSize ?_);go_fit HC.o;rintro e z ⟨rfl,hb1⟩;have E:=zH (HX.o.grow hb1);clear hb1 HC HX C;clear W0;have c3:z.cell? (zA w.heap.size 3)=some (Y (n:Int)):=E.o.cell rfl;have a4:w.heap.size<=z.heap.size:=E.o.below.size;go_upto_region 5 with(refine wpList_make_full z rfl (.tmp 19) (.tmp 19) 22 rfl w.heap.size 3 i0 (Y 0) 1 underlying22 HI.o au.o av.o .i64 .i64 d d d rfl rfl rfl rfl an.o ml a4 ?_;intro R ah a0);have ax:=qaL a0;have af:=Row.of_make ah;have ak:zK (BX w (C3 p m Am mod.length cm n Ag rows.length cg) 27 (R.alloc (.cells #[zS z.heap.size d d] 22))):=(E.o.grow ax).grow (zV.alloc zn _);have N:zK (Row (R.alloc (.cells #[zS z.heap.size d d] 22)) w.heap.size z.heap.size d (nz (cntL i n 0))):=by have:=af.below ((Below.refl R.heap.size R).alloc zn (.cells #[zS z.heap.size d d] 22)) af.lt.2;rw[cntL_zero,<- T.o];exact this
 have ap:zK ((R.alloc (.cells #[zS z.heap.size d d] 22)).cell? (zA R.heap.size 0)=some (zS z.heap.size d d)):=cell_of_row _ _ 0 _ _ _ (heap_alloc_new _ _);have bu:z.heap.size<R.heap.size:=af.lt.2;have bq:R.heap.size<(R.alloc (.cells #[zS z.heap.size d d] 22)).heap.size:=U2;have bt:w.heap.size<z.heap.size:=E.o.2.2;generalize R.alloc (.cells #[zS z.heap.size d d] 22)=w3 at *;clear ah a0 ax af E c3 HI au av an a4;generalize z.heap.size=q at *;generalize R.heap.size=M at *;clear z R;have C:=zH ak.o.range;have HW:=zH (ewalk_c (C3 p m Am mod.length cm n Ag rows.length cg) w3);go_wp2_with (refine wpList_load_mid rfl 27 (.tmp 1) rfl w.heap.size 0 rfl (C3 p m Am mod.length cm n Ag rows.length cg) _ C.o underlying27 rfl codeSize ?_);go_fit HW.o;rintro e S ⟨rfl,HW4⟩;have br:S.heap.size=w3.heap.size+1:=by rw[HW4];simp
 have P:zK (BX w (C3 p m Am mod.length cm n Ag rows.length cg) 27 S):=by rw[HW4];exact ak.o.grow (zV.alloc zn _)
 have ad:zK (Row S w.heap.size q d (nz (cntL i n 0))):=by rw[HW4];exact N.o.below ((Below.refl w3.heap.size w3).alloc zn _) N.o.lt.2
 have X:zK (S.cell? (zA M 0)=some (zS q d d)):=by rw[HW4];exact(((Below.refl w3.heap.size w3).alloc zn _).cell (p:=(zA M 0)) bq).trans ap.o
 have ac:zK (S.rangeAt w3.heap.size 0 (C3 p m Am mod.length cm n Ag rows.length cg)):=by rw[HW4];exact qeL (heap_alloc_new _ _)
 clear HW4 HW C ak N ap;generalize w3.heap.size=U at *;clear w3;go_upto_region 9 with fail;have bm:U<S.heap.size:=U0;have aa:zK (WtJ w M q d n i 0 S):=⟨X.o,ad.o,P.o.below⟩;have Z:zK (∀(l:Nat)(W:Wo),zB S W->S.heap.size<=l->CodeW l q U p m mod n rows Am Ag cm cg W):=fun l W hb hl=>by have hw:=P.o.below;have ae:=hw.trans (hb.mono hw.size);have bv:=hw.size;exact⟨U0,U0,range_keep_v ac.o (hb.block U bm),RowsFq.of_rows (HA.o.keep ae) ae.size fun b hb=>⟨U0,U0⟩,(HM.o.keep ae).more ae.size⟩
 refine(wpIn_wide (n:=0)).1 (range_wl n i S rfl rfl (WtJ w M q d n i) q U0 (fun k A B h hb=>h.keep hb U0 U0 U0) aa.o (fun l J W hb hl1 hl2 hJ hY h0=>I.o l q U J W hJ hl1 (by have:=hb.size;omega) (Z.o l W hb hl2) hY h0) (fun k g c=>{ tmps:=#[C7 p m Am mod.length cm n Ag rows.length cg,zP w.heap.size,zL none 0 0,Y 0,Y sz,Y 0,zP M,undef,zS g n c,.tuple #[Y sz,Y 0],C7 p m Am mod.length cm n Ag rows.length cg,.tuple #[Y sz,Y 0],Y sz,Y 0,Y 0,.bool false,undef,.pointer (some (zA w.heap.size 3)),Y (n:Int),Y (d:Int),zS q d d,C7 p m Am mod.length cm n Ag rows.length cg,.func (.func 158) #[] #[zP U],Y (k:Int),zS g n c,undef,undef,undef,undef,undef,undef,undef,undef],defers:=[] }) ?_ ?_ ?_)
 . intro l k g c W K hK;have a5:∀(ρ:Operand->Value)(o:Oper),(∀c,o.op≠.defer c)->Oper.semAt (some l) ρ o=execOp ρ o:=fun ρ o h=>Oper.semAt_some l ρ o h;clear P ad X ac Z aa I HM HA;gi_wp2;exact hK
 . intro l k g c Q hk hi L;(have ag:(i.getD k []).length=n:=by rw [show i.getD k []=i[k] by simp [List.getD,hk]];exact bi.o _ (List.getElem_mem hk));(have a6:Dv.wt (i.getD k [])<=n:=by rw [<- ag];exact rwt_le _);have bf:=zH (cntL_step hk a6);have aq:=zH (cntL_le i n k (Dv.wt (i.getD k [])));(have bg:zK (∀ V:Wo,zI V (zO g) (nz (i.getD k []))->zC 112 #[zS g n c] V fun e w'=>e=.returned (Y ((Dv.wt (i.getD k []):Nat):Int))/\V=w'):=fun V hV=>by have:=eweight_c (i.getD k []) (zO g) c V hV (by rw [ag];omega);rw [ag] at this;exact this);generalize Dv.wt (i.getD k [])=t at *;have t0:(0:Int)<=(t:Int):=U0;(have t1:(t:Int)<(d:Int):=by have:=T.o;omega);clear P ad X ac Z aa I HM HA ag;have ab:=zH hi;(have bb:zK ((nz (cntL i n k)).length=d):=by show _=_;rw [qaA,cntL_len,T.o]);have O:zK (WkS2 w M q g d (cntL i n k) (i.getD k []) Q.drew):=⟨hi.box,hi.row.below (Below.refl _ Q).drew hi.row.lt.2,(L.below (Below.refl _ Q).drew L.lt.2).ints L.lt.2⟩;(have ar:zK (∀ V,WkS2 w M q g d (cntL i n k) (i.getD k []) V->V.cell? (zA q t)=some (Y (((cntL i n k).getD t 0:Nat):Int))):=fun V hV=>by have:=hV.2.1.cell (j:=t) (by rw [bb.o];have:=T.o;omega);rw [qaC] at this;exact this);have bp:=aq.o;(have bw:IntKind.i64.wrap ((((cntL i n k).getD t 0:Nat):Int)+1)=(((cntL i n k).getD t 0+1:Nat):Int):=by rw [IntWalk.i64_in _ U0];omega);generalize ay:(cntL i n k).getD t 0=cv at *;have bc:=zH ay;generalize az:cv+1=aw at *;clear hi L bp aq ay az bc a6;generalize i.getD k []=u at *;gi_step;refine qdK 7 7 (WkS2 w M q g d (cntL i n k) u) [(0,0),(1,1),(2,2),(1,3),(0,4),(1,5),(1,6)] default (noBar_wide.inRound l) U1 U1 U1 O.o ?_;simp only [List.map_cons,List.map_nil,List.getD_cons_zero,List.getD_cons_succ];apply qbF rfl
   . intro V hV;have y:=hV.1;go_simp;rfl
   go_simp;apply qaM rfl
   . intro V;go_simp;rfl
   go_simp;apply qbE rfl
   . go_simp;exact⟨rfl,rfl⟩
   have bh:=zH (bg.o Q.drew O.o.2.2);go_fit bh.o;rintro e w' ⟨rfl,rfl⟩;refine⟨_,rfl,O.o,?_⟩;go_simp;apply qaM rfl
   . intro V;go_simp;rfl
   go_simp;apply qbF rfl
   . intro V hV;have y:=ar.o V hV;go_simp;rfl
   go_simp
   iterate 2
    apply qaM rfl
    . intro V
      go_simp
      rfl
    go_simp
   refine qbH ?_;show wpListIn _ _ _ _ _ _ _ _;have N:zK (Row Q.drew w.heap.size q d (nz (cntL i n k))):=O.o.2.1;have ba:zK (zB w Q.drew):=ab.o.low.drew;have y:=ar.o Q.drew O.o;have f:=N.o.frozen t;(have ao:zK (Q.drew.cell? (zA M 0)=some (zS q d d)):=by obtain⟨h1,_,_⟩:=O.o;exact h1);have be:zK (∀b,b≠q->(Q.drew.setCell (zA q t) (Y (aw:Int))).heap[b]?=Q.heap[b]?):=fun b hb=>Below.heap_setCell Q.drew (zA q t) _ b hb;(have bd:zK (WtJ w M q d n i (k+1) (Q.drew.setCell (zA q t) (Y (aw:Int)))):=by refine⟨(World.cell?_of_block (a:=(zA M 0)) (Below.heap_setCell Q.drew (zA q t) _ M (by show M≠q;omega))).trans ao.o,?_,ba.o.setCell (p:=(zA q t)) (by show w.heap.size<=q;omega) _⟩;rw[<- bf.o,<- qbC];exact N.o.set t _);have a5:∀(ρ:Operand->Value)(o:Oper),(∀c,o.op≠.defer c)->Oper.semAt (some l) ρ o=execOp ρ o:=fun ρ o h=>Oper.semAt_some l ρ o h;(repeat(first|go_values|gi_guarded|gi_step|gi_upon));exact⟨rfl,bd.o,U2,fun b _ hb=>be.o b hb⟩
 . intro D W hi hD hd;have y:=hi.box;have ab:=zH hi;have bj:zK (w.heap.size<S.heap.size):=P.o.2.2;clear P ad X ac Z aa I HM HA;go_wp2_with fail;refine⟨U2,.inl ⟨_,_,rfl,run_takeDeferred hd,?_⟩⟩;have bn:=qfZ (Below.refl D W) (Nat.le_refl D) (.deferred none);have bs:=bj.o;have a3:=ab.o.row.below bn U0;refine⟨_,results_tmp2 rfl _ _ _,.inr ⟨q,s,?_,U0,a3.ints a3.lt.2⟩,qfZ ab.o.low U0 _⟩;rw[<- T.o];rfl
end Go.Proofs.YtflejelbdlelpaaGreat
