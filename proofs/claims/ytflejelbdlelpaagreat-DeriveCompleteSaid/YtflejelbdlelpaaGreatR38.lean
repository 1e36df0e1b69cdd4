/- Parts of the proof. -/
import Derived.Test.YtflejelbdlelpaaGreatR37
set_option maxRecDepth 100000
set_option maxHeartbeats 8000000
namespace Go.Proofs.YtflejelbdlelpaaGreat
open Go.RowKit Pln Go.Proofs.Tryz
open Al (fnz colOf normC ColsOk col_len col_lt fnz_lt)
theorem nz_back:∀ {a b:LN},nz a=nz b->a=b
 |[],[],_=>rfl
 |[],_ :: _,h=>by simp[nz] at h
 |_ :: _,[],h=>by simp[nz] at h
 |x :: a,y :: b,h=>by
   have h':(x:Int):: nz a=(y:Int):: nz b:=h
   injection h' with h1 h2
   rw[nz_back h2,Int.ofNat.inj h1]
def ColPostX(w:Wo)(O:Ops)(K:LL)(n:Nat)(b3:Bool)(e:Ending)(w':Wo):Prop:=(∃b:Bool,e=.returned (.bool b)/\(b=true->ColsOk O K n b3)/\(ColsOk O K n b3->b=true))/\zB w w'
def RelCkX(wa:Wo)(bc:Nat)(col:LN)(v36:Value)(wr:Wo):Prop:=
 ∃(k:Nat)(v:Value),k<=col.length/\v36=Y k/\Num wr wa.heap.size v (col.take k)/\wr.heap[bc]?=some (.cells [v].toArray 22 (0,0))/\Below bc wa wr/\wa.heap.size<=wr.heap.size
def RelCjX(w2:Wo)(N:Nat->LN)(Z:Nat->Prop)(n:Nat)(b3:Prop)(v9 v30:Value)(wr:Wo):Prop:=
 ∃(j:Nat)(bs:List (Nat × Nat)),j<=n/\v30=Y j/\LGrid wr w2.heap.size v9 ((List.range j).map N) bs ((List.range j).map N).length/\(∀i,i<j->Z i)/\(b3->∀i i',i<i'->i'<j->N i≠N i')/\zB w2 wr
theorem columns_x(p m:Int)(mod:LI)(Am:OA)(cm n:Nat)(rows:LL)(A:OA)(c:Nat)(low:Int)(K:LL)(w:Wo)(hM:zI w Am mod)(hl:mod.length<=1000000)(hG:zR w A (nzs rows))(bc:rows.length<=1000000)(hz:codeZ p m mod (n:Int) (nzs rows)=0)(f9:1<=n)(gc:n<=64)(f7:fieldOK p m mod=true)(f6:errC p m mod (n:Int) (nzs rows)=0)(hK:kerM (opsT p.toNat m.toNat (lOf p m mod)) rows n=K)(ga:K.length<=64)(f8:∀ r∈K,r.length=n/\∀ x∈r,x<p.toNat ^ m.toNat):
 zC 44 #[C7 p m Am mod.length cm n A rows.length c,Y low] w (ColPostX w (opsT p.toNat m.toNat (lOf p m mod)) K n (decide (low=3))):=by
 have HX:=zH (bx_new w (C3 p m Am mod.length cm n A rows.length c) 27);have HG:=zH hG;have HM:=zH hM;have di:=zH f8;have an:=zH (field_ft f7);have c8:zK (∀W,zB w W->zC 93 #[C7 p m Am mod.length cm n A rows.length c] W (DuaPost p m mod n K W)):=fun W hW=>dual_any p m mod Am cm n rows A c K W ((hM.keep hW).more hW.size) hl ((hG.keep hW).more hW.size) bc hz f9 f6 hK
 have da:zK (∀ W,zB w W->zC 66 #[C4 p m Am mod.length cm] W fun e w'=>(∃ gb,e=.returned (.tuple (Cm gb))/\GFAt w' w'.heap.size gb p.toNat m.toNat (lOf p m mod) (logL (lOf p m mod) (p.toNat ^ m.toNat)))/\zB W w'):=fun W hW=>(fnew_full p m mod Am cm W ((hM.keep hW).more hW.size) U0).mono fun e w' ⟨h1,h2⟩=>⟨by
  rcases h1 with⟨h,_⟩|⟨_,gb,h3,_,h4⟩
  . rw[f7] at h
    cases h
  . exact⟨gb,h3,h4.gf⟩,h2⟩
 clear hG hM hz f6 hK f7 f8;go_enter func44,ntmps44;go_upto_region 1 with fail;generalize w.alloc (C8 p m Am mod.length cm n A rows.length c)=W0 at *;have av:=zH HX.o.range;have HD:=zH (c8.o W0 HX.o.below);go_wp2_with (refine wpList_load_mid rfl 27 (.tmp 2) rfl w.heap.size 0 rfl (C3 p m Am mod.length cm n A rows.length c) _ av.o underlying27 rfl codeSize ?_);go_fit HD.o;rintro e w1 ⟨⟨A2,c2,A',c',rfl,hr⟩,hb1⟩;have ds:=zH (HX.o.grow hb1);have dn:=zH (hr.lower HX.o.below.size);have f2:w.heap.size<w1.heap.size:=Nat.lt_of_lt_of_le HX.o.2.2 hb1.size;clear hb1 hr HD HX av HG HM c8;clear W0;go_upto_region 2 with(refine qaH rfl 27 (.tmp 5) (.tmp 20) rfl w1 _ (Cb p m A2 mod.length c2 n A' K.length c') rfl rfl codeSize rfl sc ?_);have ac:zB w1 (w1.alloc (C8 p m A2 mod.length c2 n A' K.length c')):=zV.alloc zn _;have bd:=zH (ds.o.grow ac);have dp:=zH (dn.o.grow ac);have dh:zK ((w1.alloc (C8 p m A2 mod.length c2 n A' K.length c')).heap[w1.heap.size]?=some (C8 p m A2 mod.length c2 n A' K.length c')):=heap_alloc_new _ _;have ct:w1.heap.size<(w1.alloc (C8 p m A2 mod.length c2 n A' K.length c')).heap.size:=U2;clear ac ds dn;generalize w1.alloc (C8 p m A2 mod.length c2 n A' K.length c')=W2 at *;generalize w1.heap.size=Bd at *;clear w1;have av:=zH bd.o.field;have HN:=zH (da.o W2 bd.o.below);go_wp2_with (refine wpList_load_mid rfl 24 (.tmp 23) rfl w.heap.size 0 rfl (C5 p m Am mod.length cm) _ av.o underlying24 rfl fieldSize ?_);go_fit HN.o;rintro e C ⟨⟨gb,rfl,hg⟩,hb3⟩;have ab:=zH (bd.o.grow hb3);have fi:=zH (dp.o.grow hb3);have fe:=zH ((hb3.block Bd ct).trans dh.o);have ft:Bd<C.heap.size:=Nat.lt_of_lt_of_le ct hb3.size;have fa:=zH hg;clear hb3 hg bd dp dh HN av ct da;clear W2;have y3:C.cell? (zA w.heap.size 3)=some (Y (n:Int)):=ab.o.cell rfl;obtain⟨N,hN⟩:∃N:Nat->LN,(fun j=>normC (opsT p.toNat m.toNat (lOf p m mod)) (colOf K j))=N:=⟨_,rfl⟩;have ag:zK (∀j,normC (opsT p.toNat m.toNat (lOf p m mod)) (colOf K j)=N j):=fun j=>by rw[<- hN]
 have a6:zK (∀j,(N j).length=K.length):=fun j=>by rw[<- ag.o];unfold normC scaleRow;rw[List.length_map,col_len]
 clear hN
 have al:zK (∀ (b:Bool)(W:Wo),(b=true->(∀ j,j<n->fnz (colOf K j)≠0)/\(low=3->∀ i j,i<j->j<n->N i≠N j))->(b=false->(∃ j,j<n/\fnz (colOf K j)=0)\/(low=3/\∃ i j,i<j/\j<n/\N i=N j))->zB w W->ColPostX w (opsT p.toNat m.toNat (lOf p m mod)) K n (decide (low=3)) (.returned (.bool b)) W):=fun b W h1 h4 h2 =>
  ⟨⟨b,rfl,fun hb => ⟨(h1 hb).1,fun h3 i j cn hj => by
    rw[ag.o,ag.o]
    exact(h1 hb).2 (of_decide_eq_true h3) i j cn hj⟩,fun hc=>by
    cases b
    . exfalso
      rcases h4 rfl with⟨j,hj,h5⟩|⟨h3,i,j,cn,hj,h5⟩
      . exact hc.1 j hj h5
      . refine hc.2 (decide_eq_true h3) i j cn hj ?_
        rw[ag.o,ag.o]
        exact h5
    . rfl⟩,h2⟩
 go_wp2_with fail;have de:zK (RelCjX C N (fun i=>fnz (colOf K i)≠0) n (low=3) (zL none 0 0) (Y ((0:Nat):Int)) C):=⟨0,[],U0,rfl,⟨rfl,Nat.zero_le _,World.ownsRow_nil _ _ _ _,fun i l=>by simp at l,fun i l=>by simp at l⟩,fun i h=>absurd h U0,fun _ i i' _ h=>absurd h U0,Below.refl _ _⟩;go_loopw [9,30] (fun v9 v30 wr=>RelCjX C N (fun i=>fnz (colOf K i)≠0) n (low=3) v9 v30 wr) (fun _ v30 _=>n-(intOf v30).toNat);case atStart=>exact de.o
 case round =>
  obtain⟨j,bs,hj,rfl,d1,d7,dx,hb⟩:=hrel;have a4:=zH d1;have HB:=zH hb;have ce:=zH d7;have b1:=zH dx;clear d1 hb d7 dx de y3;by_cases cr:j<n
  . (have j0 : (0 : Int) <= (j : Int) := by omega);have j1:(j:Int)<(n:Int):=U0;have f3:IntKind.i64.wrap ((j:Int)+1)=(j:Int)+1:=IntWalk.i64_in _ U0;obtain ⟨R,hR⟩:∃ R:LL,(List.range j).map N=R:=⟨_,rfl⟩;(have cw:R.length=j:=by rw [<- hR];simp);(have dr:zK ((List.range (j+1)).map N=R++[N j]):=by show _=_;rw [List.range_succ,List.map_append,hR];rfl);(have dq:zK (∀ i,i<j->R.getD i []=N i):=fun i l=>by rw [<- hR];simp [List.getD,l]);(have fj:zK (∀ r∈R,r.length=K.length):=fun r hr=>by rw [<- hR] at hr;obtain ⟨i,_,rfl⟩:=List.mem_map.1 hr;exact a6.o i);rw [hR] at a4;obtain ⟨VO,co,e9,_⟩:=own_slice' a4.o.out;rw [cw] at e9;subst e9;clear hR;obtain ⟨d8,dz,bt,bu,bw⟩:=qaF infoInts;have db:=zH dz;have bj:=zH bt;have bm:=zH bu;have bn:=zH bw;clear dz bt bu bw;have L:=zH cw;clear cw;go_upto_region 8 with fail;have ac:zB wr (wr.alloc (.cells #[zL none 0 0] 22)):=zV.alloc zn _;have b3:zK ((wr.alloc (.cells #[zL none 0 0] 22)).heap[wr.heap.size]?=some (.cells [zL none 0 0].toArray 22 (0,0))):=heap_alloc_new _ _;have bf:wr.heap.size<(wr.alloc (.cells #[zL none 0 0] 22)).heap.size:=U2;have a2:zK (∀ W,Below wr.heap.size (wr.alloc (.cells #[zL none 0 0] 22)) W->zB wr W):=fun W hW=>ac.trans hW;have ap:=zH a4.o;have D:C.heap.size<=wr.heap.size:=HB.o.size;have M:=zH (HB.o.trans (ac.mono D));clear ac a4 HB;generalize wr.alloc (.cells #[zL none 0 0] 22)=T at *;generalize bo:wr.heap.size=g at b3 bf D a2 ⊢;have aa:=zH bo;clear bo;have y4:T.cell? (zA Bd 4)=some (zL A' K.length c'):=(M.o.cell (p:=(zA Bd 4)) ft).trans (cell_of_row _ _ 4 _ _ _ fe.o);have fk:zK (RowsAt T C.heap.size A' (nzs K)):=fi.o.rowsAt.keep M.o;obtain ⟨f,P⟩:∃ f,colOf K j=f:=⟨_,rfl⟩;(have E:f.length=K.length:=by rw [<- P];exact col_len K j);have ak:zK (colOf K j=f):=P;(have c7:zK (∀ x∈f,x<p.toNat ^ m.toNat):=by rw [<- P];exact col_lt (by have:=(Al.fld_of an.o).q1;omega) (fun r hr=>(di.o r hr).2) j);(have d9:zK (∀ k,k<K.length->f.take (k+1)=f.take k++[(K.getD k []).getD j 0]):=fun k hk=>by rw [List.take_succ_eq_append_getElem U0];(have:f[k]'U0=(K.getD k []).getD j 0:=by (have h1:f.getD k 0=(K.getD k []).getD j 0:=by rw [<- P];simp [colOf,List.getD,hk]);rw [<- h1];simp [List.getD,E,hk]);rw [this]);clear P;have dg:zK (RelCkX T g f (Y ((0:Nat):Int)) T):=⟨0,zL none 0 0,U0,rfl,Num.nil _ _,b3.o,Below.refl _ _,Nat.le_refl _⟩;go_wp2_with fail;clear y4;go_loopw [36] (fun v36 wr=>RelCkX T g f v36 wr) (fun v36 _=>K.length-(intOf v36).toNat);case atStart=>exact dg.o
    case round =>
     obtain⟨k,v,hk,rfl,bq,ay,hb,bg⟩:=hrel;have HN:=zH bq;have HC:=zH ay;have HB:=zH hb;clear bq ay hb dg b3;rw[E] at hk;by_cases a0:k<K.length
     . (have k0 : (0 : Int) <= (k : Int) := by omega);have k1:(k:Int)<(K.length:Int):=U0;have f4:IntKind.i64.wrap ((k:Int)+1)=(k:Int)+1:=IntWalk.i64_in _ U0;(have d5:(nzs K).getD k []=nz (K.getD k []):=by simp [nzs,List.getD,a0]);(have bc:(K.getD k []).length=n:=by (have e:K.getD k []=K[k]:=by simp [List.getD,a0]);rw [e];exact (di.o _ (List.getElem_mem a0)).1);obtain ⟨bR,oR,Ai,ci,rfl,fy,cg,cq⟩:=(fk.o.keep (HB.o.mono D)).at_ (i:=k) (by rw [nzs_len];exact a0);rw [d5] at cg cq;rw [qaA,bc] at cg;obtain ⟨bi,oi,rfl,f0,cf⟩:=cq.at_ (k:=j) (by rw [qaA,bc];exact cr);rw [qaC] at cf;have fn:=zH (d9.o k a0);clear d5 bc cq;generalize (K.getD k []).getD j 0=x at *;go_upto_region 11 with fail;have a9:zK (CkS g v bi (oi+j) x wr.drew):=⟨HC.o,cf⟩;have dm:zK (Num wr.drew T.heap.size v (f.take k)):=HN.o.grow (Below.refl _ wr).drew;have cz:zK (Below g T wr.drew):=HB.o.drew;have d6:T.heap.size<=wr.drew.heap.size:=bg;(have fw:(f.take k).length<=1000:=by rw [List.length_take];omega);refine qaS 7 7 (CkS g v bi (oi+j) x) [(0,0),(1,1),(1,2),(1,3),(0,4),(2,5),(2,6)] default U1 U1 (fun _ _ d _ _ h=>by cases d <;> exact h) a9.o ?_;generalize wr.drew=Wd at *;clear HN HC HB bg cg cf;simp only [List.map_cons,List.map_nil,List.getD_cons_zero,List.getD_cons_succ];apply qbF rfl
       . intro V hV;have y:V.cell? (zA g 0)=some v:=cell_of_row _ _ 0 _ _ _ hV.1;go_simp;rfl
       go_simp
       iterate 3
        apply qaM rfl
        . intro V
          go_simp
          rfl
        go_simp
       apply qbF rfl
       . intro V hV;have y:=hV.2;go_simp;rfl
       go_simp;have ah:zB Wd (Wd.alloc (.cells #[Y (x:Int)] 3)):=zV.alloc zn _;have a7:zK (CkS g v bi (oi+j) x (Wd.alloc (.cells #[Y (x:Int)] 3))):=⟨(ah.block g U0).trans a9.o.1,(ah.cell (p:=(zA bi (oi+j))) (by show bi<Wd.heap.size;omega)).trans a9.o.2⟩;have b6:=zH (dm.o.grow ah);have s:=zH (cz.o.trans (ah.mono U0));have O:zK ((Wd.alloc (.cells #[Y (x:Int)] 3)).heap[Wd.heap.size]?=some (.cells #[Y (x:Int)] 3 (0,0))):=heap_alloc_new _ _;have ai:T.heap.size<=(Wd.alloc (.cells #[Y (x:Int)] 3)).heap.size:=Nat.le_trans d6 ah.size;apply qdM rfl (v:=zS Wd.heap.size 1 1) (w':=Wd.alloc (.cells #[Y (x:Int)] 3))
       . go_simp
       . exact a7.o
       go_simp;generalize Wd.heap.size=nb at *;generalize Wd.alloc (.cells #[Y (x:Int)] 3)=W5 at *;obtain⟨v',U,br,d2,dy⟩:=app_int x nb b6.o ai fw O.o;have ax:Below T.heap.size W5 U:=zV.grown dy ai (fun i l=>(World.ownsRow.lt b6.o i l).1);have a8:zK (CkS g v bi (oi+j) x U):=⟨(ax.block g bf).trans a7.o.1,(ax.cell (p:=(zA bi (oi+j))) (by show bi<T.heap.size;omega)).trans a7.o.2⟩;have a5:=zH d2;rw[<- fn.o] at a5;have J:=zH (s.o.trans (ax.mono (Nat.le_of_lt bf)));have a1:T.heap.size<=U.heap.size:=Nat.le_trans ai ax.size;(have d0:(f.take (k+1)).length=k+1:=by rw[List.length_take,E];omega);obtain⟨VA,ck,e6⟩:=a5.o.slice;rw[d0] at e6;subst e6;clear d0;refine qdM rfl (exec_append (.tmp 40) (.tmp 45) 22 rfl rfl rfl br) a8.o ?_;go_simp;clear br d2 dy ax ah a7 b6 s O a9 dm cz;refine qbH ?_;show wpList _ _ _ _ _ _;have yb:U.cell? (zA g 0)=some v:=cell_of_row _ _ 0 _ _ _ a8.o.1;(have fb:U.frozen? (zA g 0)=false:=by simp[World.frozen?,a8.o.1]);have ff:=zH (heap_set_same a8.o.1 0 (zL VA (k+1) ck));have fh:zK (Num (U.setCell (zA g 0) (zL VA (k+1) ck)) T.heap.size (zL VA (k+1) ck) (f.take (k+1))):=World.ownsRow.kept a5.o (qeR U (zA g 0) _) (.inr (fun e=>by have:=(World.ownsRow.lt a5.o g e).1;omega));have aj:=zH (J.o.setCell (p:=(zA g 0)) zn (zL VA (k+1) ck));(have fv:T.heap.size<=(U.setCell (zA g 0) (zL VA (k+1) ck)).heap.size:=by simpa using a1);go_wp2;go_roundw;case rel=>exact⟨k+1,_,U0,U3,fh.o,ff.o,aj.o,fv⟩
       case measure=>first|(simp[intOf];done)|(simp[intOf];omega)
     . (obtain rfl : K.length = k := by omega);rw [show f.take K.length=f by rw [<- E,List.take_length]] at HN;obtain ⟨VA,ck,ev⟩:=HN.o.slice;rw [E] at ev;subst ev;(have ba:zK (zI wr VA (nz f)):=by have h:=HN.o;unfold Num at h;rw [E] at h;exact (ints_of_own h E).ints);have af:=zH (indexnz_c 95 columns1_c (enters_of func95 U1 rfl) f VA ck wr ba.o U0);rw [E] at af;have yc:wr.cell? (zA g 0)=some (zL VA K.length ck):=cell_of_row _ _ 0 _ _ _ HC.o;rcases nzIx_fnz f 0 with ⟨ad,az⟩|⟨pp,d3,az,d4,ad⟩
       . rw[az] at af;have bx:=zH (ab.o.below.trans ((M.o.trans (HB.o.mono D)).mono ab.o.below.size));have fp:zK (∃j,j<n/\fnz (colOf K j)=0):=⟨j,cr,by rw[ak.o];exact ad⟩;clear ad az HN;go_wp2_with fail;refine af.o.mono ?_;rintro e w' ⟨rfl,rfl⟩;go_wp2;go_ret;exact al.o false _ (fun h=>by cases h) (fun _=>.inl fp.o) bx.o
       rw[az,Nat.zero_add] at af;clear az;obtain⟨bv,ov,rfl,f1,dw⟩:=ba.o.at_ (k:=pp) (by rw[qaA];exact d3);rw[qaC,d4] at dw;rw[E] at d3;have p0:(0:Int)<=(pp:Int):=U0;have p1:(pp:Int)<(K.length:Int):=U0;have p3:¬(pp:Int)<0:=U0;(have c9:zK (fnz (colOf K j)≠0):=by show _≠_;rw[ak.o];exact ad);have cj:=fnz_lt (by have:=(Al.fld_of an.o).q1;omega) f c7.o;have bz:=zH (M.o.trans (HB.o.mono D));have b2:=zH ((fa.o.keep bz.o).more bz.o.size);have dd:=zH (inv_c (fnz f) gb p.toNat m.toNat wr.heap.size (mdOf m mod) (lOf p m mod) wr an.o b2.o cj ad);have fc:zK (invT (lOf p m mod) (logL (lOf p m mod) (p.toNat^m.toNat)) (p.toNat^m.toNat) (fnz f)<p.toNat^m.toNat):=(Al.fld_of an.o).invL _ cj ad;(have fm:zK (scaleRow (opsT p.toNat m.toNat (lOf p m mod)) (invT (lOf p m mod) (logL (lOf p m mod) (p.toNat^m.toNat)) (p.toNat^m.toNat) (fnz f)) f=N j):=by show _=_;rw[<- ag.o,ak.o];rfl);clear d4 HN ad cj;generalize invT (lOf p m mod) (logL (lOf p m mod) (p.toNat^m.toNat)) (p.toNat^m.toNat) (fnz f)=iv at *;generalize fnz f=fz at *;go_wp2_with fail;refine af.o.mono ?_;rintro e w' ⟨rfl,rfl⟩;clear af;go_wp2_with fail;refine dd.o.mono ?_;rintro e w' ⟨rfl,n1,rfl⟩;clear dd dw;have fx:(wr.drewN n1).cell? (zA g 0)=some (zL (some (zA bv ov)) K.length ck):=yc;have b9:=zH (scale_c iv gb p.toNat m.toNat (mdOf m mod) (lOf p m mod) f (some (zA bv ov)) ck (wr.drewN n1) an.o (b2.o.keep (qaB zV n1)) fc.o c7.o (ba.o.keep (qaB zV n1)) U0);rw[fm.o,E] at b9;have dj:zK ((wr.drewN n1).heap[g]?=some (.cells [zL (some (zA bv ov)) K.length ck].toArray 22 (0,0))):=HC.o;have c6:zK (Below g T (wr.drewN n1)):=qaB HB.o n1;have du:g<(wr.drewN n1).heap.size:=Nat.lt_of_lt_of_le bf bg;clear ba b2 bz HC HB bg;generalize wr.drewN n1=wn at *;go_wp2_with fail;refine b9.o.mono ?_;rintro e w4 ⟨rfl,hr4,hb4⟩;have a3:=zH ((hb4.block g du).trans dj.o);have b8:=zH hr4;have cx:=zH (c6.o.trans (hb4.mono (Nat.le_of_lt du)));have fu:=b8.o.lt.2;clear hr4 hb4 b9 dj c6 yc fx;generalize wn.heap.size=I at *;clear wn;have y5:w4.cell? (zA g 0)=some (zL (some (zA bv ov)) K.length ck):=cell_of_row _ _ 0 _ _ _ a3.o;(have f5:w4.frozen? (zA g 0)=false:=by simp[World.frozen?,a3.o]);go_upto_region 18 with fail;have O:=zH (heap_set_same a3.o 0 (zS I K.length K.length));have Z:=zH (b8.o.far (p:=(zA g 0)) (by show I≠g;omega) (zS I K.length K.length));have s:=zH (cx.o.setCell (p:=(zA g 0)) zn (zS I K.length K.length));clear y5 f5 a3 b8 cx fu;generalize w4.setCell (zA g 0) (zS I K.length K.length)=q at *;clear w4;have H:zK (∀W,Below g q W->LGrid W C.heap.size (zL VO j co) R bs R.length):=fun W hW=>ap.o.grow (a2.o W (s.o.trans hW));have ai:C.heap.size<=q.heap.size:=Nat.le_trans M.o.size s.o.size;have be:=Z.o.lt;by_cases Q:low=3
       . (have dt : zR q VO (nzs R) := by have h:=H.o q zV;rw [<- L.o] at h;exact h.up.rowsAt)
         have b0:=zH (containsfar_x (nzs R) (nz (N j)) VO (zO I) co K.length g q dt (by rw[qaA,a6.o];exact cell_of_row _ _ 0 _ _ _ O.o) (Z.o.ints Z.o.lt.2) (by rw[nzs_len,L.o];omega) (fun o ho=>by
          obtain⟨r,hr,rfl⟩:=List.mem_map.1 ho
          rw[qaA,fj.o r hr]
          omega))
         rw[nzs_len,L.o] at b0;clear dt;have fq:decide (low=3)=true:=decide_eq_true Q;have fs:(low==3)=true:=beq_iff_eq.2 Q;have fg:zK (low=3):=Q;clear Q;go_wp2_with fail;refine b0.o.mono ?_;rintro e w' ⟨⟨bb,rfl,hbb,hbd⟩,B,rfl⟩;have bh:=zH hbb;have cy:=zH hbd;clear b0 hbb hbd;cases bb;rotate_left
         . (have fo:zK (∃i j,i<j/\j<n/\N i=N j):=by obtain⟨i,l,e⟩:=cy.o rfl;(have h2:(nzs R).getD i []=nz (R.getD i []):=by simp[nzs,List.getD,L.o,l]);rw[h2,dq.o i l] at e;exact⟨i,j,l,cr,nz_back e⟩);have bx:=zH (ab.o.below.trans ((M.o.trans ((s.o.trans (qaB zV B)).mono D)).mono ab.o.below.size));clear s H;go_wp2;go_ret;exact al.o false _ (fun h=>by cases h) (fun _=>.inr ⟨fg.o,fo.o⟩) bx.o
         have b7:zK (low=3->∀ i,i<j->N i≠N j):=fun _ i l e=>by
          have h1:∀i,i<j->(nzs R).getD i []≠nz (N j):=by
           have:=bh.o
           first
            |exact this rfl
            |exact this trivial
            |exact this
          refine h1 i l ?_;(have h2:(nzs R).getD i []=nz (R.getD i []):=by simp[nzs,List.getD,L.o,l]);rw[h2,dq.o i l,e]
         clear bh;have yc:(q.drewN B).cell? (zA g 0)=some (zS I K.length K.length):=cell_of_row _ _ 0 _ _ _ O.o;have X:zK (Below g q (q.drewN B)):=qaB zV B;(have au:zK (Row (q.drewN B) g I K.length (nz ((R++[N j]).getD R.length []))):=by show Row _ _ _ _ _;rw[qeO R (N j) []];exact(Z.o.below (qaB (Below.refl q.heap.size q) B) be.2).base U0);have J:zK (Below g T (q.drewN B)):=s.o.trans X.o;have ao:=zH ((H.o _ X.o).wide (N j));have a1:C.heap.size<=(q.drewN B).heap.size:=ai;have dv:g<(q.drewN B).heap.size:=Nat.lt_of_le_of_lt U0 be.2;have cl:(R++[N j]).getD R.length []=N j:=qeO R (N j) [];clear s O Z X H;generalize q.drewN B=U at *;(have ar:zK ((U.alloc (.cells #[zS I K.length K.length] 22)).ownsRow C.heap.size 22 1 (zL VO j co) j ((List.range j).map (hdr (R++[N j]) bs))):=by have h:=ao.o.out;rw[L.o] at h;exact World.ownsRow.alloc h _);go_wp2_with (at_builtin;refine wpList_append_own_at _ rfl (.tmp 72) (.tmp 74) 25 rfl C.heap.size 22 d8 _ 1 24 underlying25 db.o bj.o bm.o bn.o rfl dc (zL VO j co) j ((List.range j).map (hdr (R++[N j]) bs)) rfl ar.o (zA U.heap.size 0) 1 1 [zS I K.length K.length] rfl rfl ?c1 ?c2 ?c3 ?c4 ?c5 ?_);(try case c1=>exact World.news_of_block (cs:=#[zS I K.length K.length]) (t:=22) (fr:=(0,0)) (heap_alloc_new U _));case c2=>first|rfl|(intro u hu;simp at hu;subst hu;rfl)
         case c3=>unfold maxLen;omega
         case c4=>omega
         case c5=>first|omega|(simp;omega)|assumption
         intro v' w7 z ae _ aw;have aq:=zH (ap.o.wide (N j));have S:∀i,(Value.slice VO j co).ownBlock=some i->C.heap.size<=i:=fun i l=>(World.ownsRow.lt ap.o.out i l).1;(have cd:zK (LGrid w7 C.heap.size v' (R++[N j]) (bs++[(I,K.length)]) (R.length+1)):=by refine aq.o.step U2 (by rw[aa.o];exact D) (a2.o _ J.o) (by rw[aa.o];exact au.o) ?_ ae (by simpa using aw);rw[cl,a6.o,L.o];exact z);have aj:zK (zB C w7):=((M.o.trans (J.o.mono D)).alloc a1 _).grown ae so (fun i l=>S i l);clear z ae aw ar ao J au S aq;go_wp2;go_roundw
         case rel=>exact ⟨j+1,bs++[(I,K.length)],U0,U3,(by rw [dr.o,List.length_append];exact cd.o),(fun i l=>by
          rcases Nat.lt_succ_iff_lt_or_eq.1 l with h|rfl
          . exact ce.o i h
          . show fnz (colOf K i)≠ 0
            exact c9.o),(fun h3 i i' hii l=>by
          rcases Nat.lt_succ_iff_lt_or_eq.1 l with h|rfl
          . exact b1.o h3 i i' hii h
          . exact b7.o h3 i hii),aj.o⟩
         case measure=>first|(simp[intOf];done)|(simp[intOf];omega)
       . have fq : decide (low = 3) = false := decide_eq_false Q;have fs:(low==3)=false:=beq_false_of_ne Q;have b7:zK (low=3->∀ i,i<j->N i≠N j):=fun h=>absurd h Q;clear Q;have e0:q=q.drewN 0:=rfl;obtain ⟨B,bp⟩:∃ B,B=0:=⟨0,rfl⟩;(have e1:q.drewN B=q:=by rw [bp];rfl);clear e0 bp;rw [<- e1];clear e1;have yc:(q.drewN B).cell? (zA g 0)=some (zS I K.length K.length):=cell_of_row _ _ 0 _ _ _ O.o;have X:zK (Below g q (q.drewN B)):=qaB zV B;(have au:zK (Row (q.drewN B) g I K.length (nz ((R++[N j]).getD R.length []))):=by show Row _ _ _ _ _;rw [qeO R (N j) []];exact (Z.o.below (qaB (Below.refl q.heap.size q) B) be.2).base U0);have J:zK (Below g T (q.drewN B)):=s.o.trans X.o;have ao:=zH ((H.o _ X.o).wide (N j));have a1:C.heap.size<=(q.drewN B).heap.size:=ai;have dv:g<(q.drewN B).heap.size:=Nat.lt_of_le_of_lt U0 be.2;have cl:(R++[N j]).getD R.length []=N j:=qeO R (N j) [];clear s O Z X H;generalize q.drewN B=U at *;(have ar:zK ((U.alloc (.cells #[zS I K.length K.length] 22)).ownsRow C.heap.size 22 1 (zL VO j co) j ((List.range j).map (hdr (R++[N j]) bs))):=by have h:=ao.o.out;rw [L.o] at h;exact World.ownsRow.alloc h _);go_wp2_with (at_builtin;refine wpList_append_own_at _ rfl (.tmp 72) (.tmp 74) 25 rfl C.heap.size 22 d8 _ 1 24 underlying25 db.o bj.o bm.o bn.o rfl dc (zL VO j co) j ((List.range j).map (hdr (R++[N j]) bs)) rfl ar.o (zA U.heap.size 0) 1 1 [zS I K.length K.length] rfl rfl ?c1 ?c2 ?c3 ?c4 ?c5 ?_);(try case c1=>exact World.news_of_block (cs:=#[zS I K.length K.length]) (t:=22) (fr:=(0,0)) (heap_alloc_new U _));case c2=>first|rfl|(intro u hu;simp at hu;subst hu;rfl)
         case c3=>unfold maxLen;omega
         case c4=>omega
         case c5=>first|omega|(simp;omega)|assumption
         intro v' w7 z ae _ aw;have aq:=zH (ap.o.wide (N j));have S:∀i,(Value.slice VO j co).ownBlock=some i->C.heap.size<=i:=fun i l=>(World.ownsRow.lt ap.o.out i l).1;(have cd:zK (LGrid w7 C.heap.size v' (R++[N j]) (bs++[(I,K.length)]) (R.length+1)):=by refine aq.o.step U2 (by rw[aa.o];exact D) (a2.o _ J.o) (by rw[aa.o];exact au.o) ?_ ae (by simpa using aw);rw[cl,a6.o,L.o];exact z);have aj:zK (zB C w7):=((M.o.trans (J.o.mono D)).alloc a1 _).grown ae so (fun i l=>S i l);clear z ae aw ar ao J au S aq;go_wp2;go_roundw
         case rel=>exact ⟨j+1,bs++[(I,K.length)],U0,U3,(by rw [dr.o,List.length_append];exact cd.o),(fun i l=>by
          rcases Nat.lt_succ_iff_lt_or_eq.1 l with h|rfl
          . exact ce.o i h
          . show fnz (colOf K i)≠ 0
            exact c9.o),(fun h3 i i' hii l=>by
          rcases Nat.lt_succ_iff_lt_or_eq.1 l with h|rfl
          . exact b1.o h3 i i' hii h
          . exact b7.o h3 i hii),aj.o⟩
         case measure=>first|(simp[intOf];done)|(simp[intOf];omega)
  . (obtain rfl:n=j:=by omega);go_wp2;go_ret;exact al.o true _ (fun _=>⟨ce.o,b1.o⟩) (fun h=>by cases h) (ab.o.below.trans (HB.o.mono ab.o.below.size))
end Go.Proofs.YtflejelbdlelpaaGreat
