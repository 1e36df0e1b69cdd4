/- Parts of the proof. -/
import Derived.Test.YtocbdafcolbfeaaGreatR22
set_option maxRecDepth 100000
set_option maxHeartbeats 8000000
namespace Go.Proofs.YtocbdafcolbfeaaGreat
open Go.RowKit Pln Tryz
def pivC(p m:Int)(mod:LI)(n:Nat)(rows:LL):LN:=(elGo (opsT p.toNat m.toNat (lOf p m mod)) rows n).piv
theorem GFUp.of_blocks{w w':Wo}{C D p m:Nat}{l H:LN}(h:GFUp w C D p m l H)(I:w.heap.size<=w'.heap.size)(E:∀k,C<=k->k<w.heap.size->w'.heap[k]?=w.heap[k]?):GFUp w' C D p m l H:=by
 obtain⟨d,f,n,A,v,ge,x,z,y,g,q,i,r,s,t,u⟩:=h;have c:∀b o,C<=b->b<w.heap.size->w'.cell? (zA b o)=w.cell? (zA b o):=fun b o d f=>by unfold World.cell?;rw[E b d f]
 refine⟨d,U0,n,A,v,ge,x,z,y,g,U0,i,U0,(E _ d f).trans s,fun hz=>?_,fun hz=>?_⟩
 . obtain⟨b,o,e,B,q2⟩:=t hz;injection e with e;injection e with e1 e2;subst e1 e2;exact⟨_,_,rfl,U0,fun j hj=>(c _ _ g q).trans (q2 j hj)⟩
 . obtain⟨b,o,e,B,q2⟩:=u hz;injection e with e;injection e with e1 e2;subst e1 e2;exact⟨_,_,rfl,U0,fun j hj=>(c _ _ i r).trans (q2 j hj)⟩
theorem GFUp.lower{w:Wo}{v lo' t p m:Nat}{l u:LN}(h:GFUp w v t p m l u)(x:lo'<=v):GFUp w lo' t p m l u:=by obtain⟨s,n,b,o,g,ge,i,k,j,q,c,r,d,f⟩:=h;exact⟨U0,n,b,o,g,ge,i,k,j,U0,c,U0,d,f⟩
def ViewPost(w:Wo)(p m:Int)(mod:LI)(n:Nat)(rows:LL)(A:OA)(c:Nat)(e:Ending)(w':Wo):Prop :=
 (∃(gb : Nat)(VA : OA)(ck : Nat),e = .returned (.tuple #[D5 gb n A rows.length c VA rows.length ck,Y 0])/\
   GFUp w' w.heap.size gb p.toNat m.toNat (lOf p m mod) (logL (lOf p m mod) (p.toNat^m.toNat))/\IntsUp w' w.heap.size VA (nz (pivC p m mod n rows)))/\zB w w'
theorem qcI{p m:Int}{mod:LI}{n:Nat}{rows:LL}(k:codeZ p m mod (n:Int) (nzs rows)=0):fieldOK p m mod=true/\1<=n/\n<=64/\Grid (p.toNat^m.toNat) rows.length n rows/\rows.length<=n/\mod.length<=1000/\errC p m mod (n:Int) (nzs rows)=0/\canonM (opsT p.toNat m.toNat (lOf p m mod)) rows n=rows/\(pivC p m mod n rows).length=rows.length/\(∀x∈pivC p m mod n rows,x<n):=by obtain⟨f,i,j,_,d,_,g,h,c,b⟩:=codeZ_is k;rw[natR_nzs] at d c b;rw[Int.toNat_natCast] at d c b;refine⟨f,U0,U0,d,b,g,h,c,?_,elGo_piv_lt _ rows n⟩;unfold pivC;rw[<- canonM_len,c]
theorem sopenv_c(p m:Int)(mod:LI)(Am:OA)(cm n:Nat)(rows:LL)(A:OA)(c:Nat)(w:Wo)(hM:zI w Am mod)(hA:zR w A (nzs rows))(hz:codeZ p m mod (n:Int) (nzs rows)=0):
 zC 97 #[C7 p m Am mod.length cm,Co n A rows.length c] w (ViewPost w p m mod n rows A c):=by
 obtain⟨V,U,ad,K,ae,ac,J,r,W,X⟩:=qcI hz;have s:=zH (box3 w p m Am mod.length cm (n:Int) A rows.length c 122 (Cu none));have S:=zH hM;have N:=zH hA;have E:zK (∀k,k<(nzs rows).length->((nzs rows).getD k []).length<=9223372036854775807):=fun k hk=>by rw[nzs_len] at hk;rw[nzs_getD,qaA,(K.row hk).1];omega
 have ab:zK (pivC p m mod n rows=(elGo (opsT p.toNat m.toNat (lOf p m mod)) rows n).piv):=rfl;clear hM hA W X K;go_enter func97,ntmps97;go_wp2_with fail;generalize ((w.alloc (C3 p m Am mod.length cm)).alloc (Cb n A rows.length c)).alloc (Cj none)=W0 at *;have T:=canonical2_c p m mod Am cm n rows A c W0 ((S.o.keep s.o.below).more s.o.below.size) U0 ((N.o.keep s.o.below).more s.o.below.size) U J;rw[r] at T;have HC:=zH T;clear T r;go_fit HC.o;rintro e v ⟨⟨R,VA,ck,rfl,hra,hpi⟩,hb1⟩;have H:=zH s.o.size;have I:=zH (s.o.keep hb1);have D:=zH hra.rowsAt;have B:=zH hpi;clear s HC hb1 hra hpi;have aa:=H.o;have d:zB v (v.alloc (Cl n R rows.length rows.length)):=zV.alloc zn _;have f:=zH (I.o.keep d);have l:=zH ((D.o.keep d).more d.size);have i:=zH (B.o.of_blocks d.size fun k _ hk=>d.block k hk);have z:zK ((v.alloc (Cl n R rows.length rows.length)).cell? (zA v.heap.size 1)=some (zS R rows.length rows.length)):=World.cell?_alloc_new _ _ _ 1;clear d D B I;go_upto_region 4 with(refine qaH rfl 54 (.tmp 6) (.tmp 14) rfl v _ (Cm n R rows.length rows.length) rfl rfl matSize rfl U3 ?_);generalize v.alloc (Cl n R rows.length rows.length)=L at *;have a0:=z.o;have a1:L.cell? (zA (w.heap.size+1) 1)=some (zL A rows.length c):=cell_of_row _ _ 1 _ _ _ f.o.k1;have u:=sequalf_c (nzs rows) (nzs rows) (zO R) A rows.length c L l.o ((N.o.keep f.o.below).more f.o.below.size) (by rw[nzs_len];omega) E.o;rw[nzs_len,decide_eq_true rfl] at u;have x:=zH u;clear u l z E;go_wp2_with fail;go_fit x.o;rintro e Z ⟨rfl,n3,rfl⟩;have h:=qaB (Below.refl L.heap.size L) n3;have b:=zH (f.o.keep h);have j:=zH (i.o.of_blocks h.size fun k _ hk=>h.block k hk);clear a0 a1 f x i h;generalize L.drewN n3=Z at *;have g:=zH (qeS b.o.k0);have y:=zH (fnew_up p m mod Am cm Z ((S.o.keep b.o.below).more b.o.below.size) V);clear S N;go_wp2_with (refine wpList_load_mid rfl 29 (.tmp 2) rfl w.heap.size 0 rfl (C5 p m Am mod.length cm) _ g.o underlying29 rfl fieldSize ?_);go_fit y.o;rintro e M ⟨⟨gb,rfl,hg⟩,hb4⟩;have t:=zH (b.o.keep hb4);have C:=zH (j.o.of_blocks hb4.size fun k _ hk=>hb4.block k hk);have O:zK (GFUp M Z.heap.size gb p.toNat m.toNat (lOf p m mod) (logL (lOf p m mod) (p.toNat^m.toNat))):=hg;have q:=zH b.o.size;clear hg hb4 y b g j;have g:=zH (qeS t.o.k1);have Q:=zH t.o.k2;have HY:=zH (t.o.set (Ch gb n A rows.length c VA rows.length ck));go_wp2_with (first|(refine wpList_load_mid rfl 54 (.tmp 3) rfl (w.heap.size+1) 0 rfl (Cn n A rows.length c) _ g.o underlying54 rfl matSize ?_)|(refine wpList_store_row rfl 122 (.tmp 4) (.tmp 36) rfl M (w.heap.size+1+1) 122 (Cu none) (Ch gb n A rows.length c VA rows.length ck) rfl rfl Q.o viewSize rfl U3 ?_));refine bodyPost_ret (results_row_one (P:=prog) rfl _ _ (w.heap.size+1+1) 122 (Ch gb n A rows.length c VA rows.length ck) (0,0) _ _ rfl rfl HY.o.k2 underlying122 rfl viewSize) rfl ?_;refine⟨⟨gb,VA,ck,rfl,?_,?_⟩,HY.o.below⟩
 . exact(O.o.of_blocks U2 fun k hk _=>setRow_other M (w.heap.size+1+1) k _ (by have:=q.o;omega)).lower (by have:=q.o;omega)
 . exact(C.o.of_blocks U2 fun k hk _=>setRow_other M (w.heap.size+1+1) k _ U0).lower U0
def RedI(O:Ops)(q n:Nat)(rows:LL)(x rest:LN):Prop:=∀h:Al.Fld q O,Al.InC h n rows fun j=>Al.wd h x j+-(Al.wd h rest j)
theorem redI_start(O:Ops)(q n:Nat)(rows:LL)(x:LN):RedI O q n rows x x:=fun h=>((Al.inC_lin n rows).zero).congr fun _ _=>((Al.El.fd (h:=h)).addN _).symm
theorem redI_step{O:Ops}{q n:Nat}{rows:LL}{x rest row:LN}{y:Nat}(k:RedI O q n rows x rest)(m:y<q)(g:row∈rows)(i:Dv.Ok q n rest)(l:Dv.Ok q n row):RedI O q n rows x (List.zipWith (subF O y) rest row):=fun h=>by
 have H:=Al.El.fd (h:=h)
 refine((k h).add ((Al.InC.mem g).mul (Al.El.of h y))).congr fun j _=>?_
 rw[(subF_ok h m i l).2 j]
 have c:∀a b:Al.El q O h,-(a+-b)=-a+b:=fun a b=>by
  refine(H.negu ?_).symm
  have d:Std.Associative (α:=Al.El q O h) (·+·):=⟨H.addA⟩
  have f:Std.Commutative (α:=Al.El q O h) (·+·):=⟨H.addC⟩
  rw[show a+-b+(-a+b)=(a+-a)+(b+-b) by ac_rfl,H.addN,H.addN,H.addZ]
 rw[c,H.addA]
def RelRd(w W1:Wo)(vc:List Value)(g c n q:Nat)(O:Ops)(rows:LL)(x:LN)(np:Nat)(v5 v16:Value)(wr:Wo):Prop:=
 ∃(i:Nat)(rest:LN)(ys:LI),i<=np/\v16=Y i/\Dv.Ok q n rest/\RedI O q n rows x rest/\Row wr w.heap.size g c (nz rest)/\wr.ownsRow W1.heap.size 3 1 v5 ys.length (ys.map (Value.int .i64))/\ys.length=i/\
  wr.heap[w.heap.size]?=some (.cells vc.toArray 122 (0,0))/\zB w wr/\W1.heap.size<=wr.heap.size
def RelRe(wb:Wo)(B g c:Nat)(f:Nat->Nat->Nat)(rest row:LN)(v38:Value)(wr:Wo):Prop:=
 ∃t:Nat,t<=rest.length/\v38=Y t/\Row wr B g c (nz (zwK f rest row t))/\wb.grownBy wr (some g)
theorem qeL{w w':Wo}{B n:Nat}{e:TypeId}{s:Nat}{v:Value}{xs:List Value}(h:w.ownsRow B e s v n xs)(l:∀k,B<=k->k<w.heap.size->w'.heap[k]?=w.heap[k]?):w'.ownsRow B e s v n xs:=by
 refine⟨h.1,?_⟩;rcases h.2 with⟨f,i⟩|⟨g,b,cur,j,c,d,r⟩
 . exact .inl ⟨f,i⟩
 . exact .inr ⟨g,b,cur,j,c,(l g c (block_lt d)).trans d,r⟩
theorem viewSz:(prog.info? 122).map (·.size)=some 4:=U1
def RedPost(w:Wo)(O:Ops)(q n:Nat)(rows:LL)(x:LN)(e:Ending)(w':Wo):Prop:=
 (∃(g c':Nat)(V:OA)(n' c'':Nat)(rest:LN),e=.returned (.tuple #[zS g n c',zL V n' c''])/\Row w' w.heap.size g c' (nz rest)/\Dv.Ok q n rest/\RedI O q n rows x rest)/\zB w w'
theorem reduce_c(gb p m:Nat)(md l:LN)(n:Nat)(rows:LL)(A:OA)(c:Nat)(piv:LN)(VA:OA)(ck:Nat)(x:LN)(Ax:OA)(cx:Nat)(w:Wo)(hF:FT p m md l)(hG:GFAt w w.heap.size gb p m l (logL l (p ^ m)))(hA:zR w A (nzs rows))(cs:Grid (p ^ m) rows.length n rows)(cy:1<=n)(cz:n<=64)(hV:zI w VA (nz piv))(ct:piv.length=rows.length)(cw:∀ y∈piv,y<n)(c3:rows.length<=64)(hX:zI w Ax (nz x))(hx:Dv.Ok (p ^ m) n x):
 zC 222 #[D5 gb n A rows.length c VA rows.length ck,zL Ax n cx] w (RedPost w (opsT p m l) (p^m) n rows x):=by
 have az:zK ((w.alloc (Cr gb n A rows.length c VA rows.length ck)).heap[w.heap.size]?=some (.cells (Ck gb n A rows.length c VA rows.length ck).toArray 122 (0,0))):=heap_alloc_new _ _;have I:zK (zB w (w.alloc (Cr gb n A rows.length c VA rows.length ck))):=zV.alloc zn _;have a9:zK (w.heap.size<(w.alloc (Cr gb n A rows.length c VA rows.length ck)).heap.size):=by show _ < _;simp
 have a2:zK (∀(W:Wo)(a b:Nat),zB w W->a<p^m->b<p^m->zC 142 (Cf gb a b) W (Quiet (Y (((opsT p m l).mul a b:Nat):Int)) W)):=fun W a b hW X R=>mul_c a b gb p m w.heap.size md l W hF (hG.keep hW) X R;have a8:=zH<|fun W a b hW X R=>sub_c a b gb p m w.heap.size md l W hF (hG.keep hW) hW.size X R
 have bu:=zH hG.1;have b1:zK (∀a b y,Dv.Ok (p^m) n a->Dv.Ok (p^m) n b->y<p^m->Dv.Ok (p^m) n (List.zipWith (subF (opsT p m l) y) a b)):=fun a b y X R hy=>(subF_ok (Al.fld_of hF) hy X R).1;have bx:zK (∀a b,a<p^m->b<p^m->(opsT p m l).mul a b<p^m):=fun a b X R=>mulT_lt hF X R;have HA:=zH hA;have HV:=zH hV;have bw:=zH cs;have bz:=zH cw;have an:=zH ct;have cj:=zH hx.1;have b2:=zH hx;have ar:0<p^m:=by have:=(Al.fld_of hF).q1;omega
 have bd:zC 74 #[zL Ax n cx] (w.alloc (Cr gb n A rows.length c VA rows.length ck)) fun e w'=>(∃g c',e=.returned (zS g n c')/\Row w' (w.alloc (Cr gb n A rows.length c VA rows.length ck)).heap.size g c' (nz x))/\Below (w.alloc (Cr gb n A rows.length c VA rows.length ck)).heap.size (w.alloc (Cr gb n A rows.length c VA rows.length ck)) w':=by have:=qfO (nz x) Ax cx (w.alloc (Cr gb n A rows.length c VA rows.length ck)) ((hX.keep I.o).more I.o.size) (by rw[qaA,hx.1];omega) (by rw[qaA,hx.1];omega);rw[qaA,hx.1] at this;exact this
 have ay:=zH bd;clear hF hG hA hV cs cw ct hX hx bd;generalize opsT p m l=O at *;generalize p^m=q at *;go_enter func222,ntmps222;go_upto_region 1 with fail;generalize w.alloc (Cr gb n A rows.length c VA rows.length ck)=W0 at *;go_wp2_with fail;go_fit ay.o;rintro e w1 ⟨⟨g,c',rfl,d⟩,hb1⟩;have hg:=d.lt;have cr:=a9.o;have a0:=zH<|(hb1.block _ a9.o).trans az.o
 have ax:=zH (I.o.trans (hb1.mono I.o.size))
 have ac:zK (RelRd w w1 (Ck gb n A rows.length c VA rows.length ck) g c' n q O rows x rows.length (zL none 0 0) (Y ((0:Nat):Int)) w1):=
  ⟨0,x,[],U0,rfl,b2.o,redI_start _ _ _ _ _,d.base U0,World.ownsRow_nil _ _ _ _,rfl,a0.o,ax.o,Nat.le_refl _⟩
 have y3:w1.cell? (zA w.heap.size 3)=some (zL VA rows.length ck):=cell_of_row _ _ 3 _ _ _ a0.o;clear d hb1 ay az I ax;go_wp2;go_loopw [5,16] (fun v5 v16 wr=>RelRd w w1 (Ck gb n A rows.length c VA rows.length ck) g c' n q O rows x rows.length v5 v16 wr) (fun _ v16 _=>rows.length-(intOf v16).toNat);case atStart=>exact ac.o
 case round =>
  obtain⟨i,rest,Q,hi,rfl,bf,ah,d,P,bo,af,bb,aw⟩:=hrel;have z:=zH bf;have K:=zH ah;have E:=zH d;have ab:=zH P;have aq:=zH bo;have aa:=zH af;have U:=zH bb;obtain⟨V5,c5,rfl,_⟩:=own_slice' P;clear bf ah d P bo af bb ac y3;by_cases H:i<rows.length
  . obtain ⟨bp,op,rfl,cl,b9⟩ := ((HV.o.keep U.o).more U.o.size).at_ (k := i) (by rw [qaA,an.o];exact H);rw [qaC] at b9;(have cf:piv.getD i 0<n:=by rw [show piv.getD i 0=piv[i]'(by rw [an.o];exact H) by simp [List.getD,show i<piv.length by rw [an.o];exact H]];exact bz.o _ (List.getElem_mem _));have i0:(0:Int)<=(i:Int):=U0;have i1:(i:Int)<(rows.length:Int):=U0;generalize piv.getD i 0=pv at *;have p0:(0:Int)<=(pv:Int):=U0;have p1:(pv:Int)<(n:Int):=U0;have cd:=E.o.cell (j:=pv) (by rw [qaA,z.o.1];exact cf);rw [qaC] at cd;have Z:=Al.getD_ok z.o.2 ar pv;generalize cq:rest.getD pv 0=y at *;have M:zB wr (wr.alloc (.cells #[Y (y:Int)] 3)):=zV.alloc zn _
    obtain⟨g6,c6,w3,ai,aj,ba,bm,_,_⟩:=qbY (W:=wr.alloc (.cells #[Y (y:Int)] 3)) (B:=w1.heap.size) (v:=zL V5 Q.length c5) (xs:=Q) (own_keepX ab.o M) (Nat.le_trans aw M.size) (zs:=[(y:Int)]) (A:=some (zA wr.heap.size 0)) (c:=1) (fun _=>⟨wr.heap.size,0,rfl,U2,fun j hj=>by
     have ce:j=0:=by simpa using hj
     subst ce
     exact cell_of_row _ _ 0 _ _ _ (heap_alloc_new wr (.cells #[Y (y:Int)] 3))⟩) U2 (by have:=aq.o;omega) U2
    have ad:=zH ai;(have S:=zH<|(M.mono aw).trans ba);have bj:=Nat.le_trans aw (Nat.le_trans M.size bm);(have L:=zH<|E.o.below S.o hg.2);(have u:=zH<|(S.o.block _ U0).trans aa.o);(have r:=zH<|U.o.trans (S.o.mono U0));(have J:zK (w3.ownsRow w1.heap.size 3 1 (zS g6 (Q.length+1) c6) (Q++[(y:Int)]).length ((Q++[(y:Int)]).map (Value.int .i64))):=by have:=aj;unfold Row at this;rw[show(Q++[(y:Int)]).length=Q.length+1 by simp] at this ⊢;exact this);(have ae:zK ((Q++[(y:Int)]).length=i+1):=by show _=_;rw[List.length_append,aq.o];rfl);clear M ai aj ba bm S E ab aa aq;by_cases ch:y=0
    . subst ch;go_wp2_with (at_builtin;refine qaP rfl (.tmp 25) (.tmp 27) 23 rfl rfl rfl ad.o ?_);go_roundw;case rel=>exact⟨i+1,rest,Q++[((0:Nat):Int)],U0,gn,z.o,K.o,L.o,J.o,ae.o,u.o,r.o,bj⟩
      case measure=>simp[intOf];omega
    . have co : ((y : Int) != 0) = true := bne_iff_ne.2 U0;obtain ⟨br,bq,Ai,ci,b3,b8,h,N⟩:=HA.o.at_ (i:=i) (by rw [nzs_len];exact H);rw [nzs_getD] at h N;rw [qaA] at h;have au:=bw.o.row H;have bh:=Al.mem_getD H;generalize rows.getD i []=row at *;subst b3;have ap:zK (Dv.Ok q n row):=au;have b0:=zH bh;have D:=au.1;rw [D] at h;obtain ⟨bi,oi,rfl,b7,bc⟩:=N (by rw [qaA,D];omega);(have bs:zK (∀ (W:Wo) j,zB w W->j<n->W.cell? (zA bi (oi+j))=some (Y ((row.getD j 0:Nat):Int))):=fun W j hW hj=>by have:=bc j (by rw [qaA,D];exact hj);rw [qaC] at this;exact (hW.cell (p:=(zA bi (oi+j))) b7).trans this);have yr:=(r.o.cell (p:=(zA br (bq+i))) b8).trans h;have y2:w3.cell? (zA w.heap.size 2)=some (zL (some (zA br bq)) rows.length c):=cell_of_row _ _ 2 _ _ _ u.o;have a5:=zH z.o.1;(have V:zK (rest.length=row.length):=by show _=_;rw [z.o.1,D]);have a4:zK (RelRe w3 w.heap.size g c' (subF O y) rest row (Y ((0:Nat):Int)) w3):=⟨0,U0,rfl,by rw [zwK_zero];exact L.o,World.grownBy.refl _ _⟩;have cm:=bu.o;have cn:¬ g=bi:=U0;clear au bh D bc h;go_wp2_with (at_builtin;refine qaP rfl (.tmp 25) (.tmp 27) 23 rfl rfl rfl ad.o ?_);go_loopw [38] (fun v38 wr=>RelRe w3 w.heap.size g c' (subF O y) rest row v38 wr) (fun v38 _=>n-(intOf v38).toNat);case atStart=>exact a4.o
      case round =>
       obtain⟨t,ht,rfl,d,ag⟩:=hrel;have C:=zH d;have s:=zH ag;clear d ag a4 y2;(have T:=zH<|r.o.grown s.o (by have:=r.o.size;omega) (fun k hk=>by injection hk with hk;omega));have bg:=a5.o;by_cases be:t<n
       . (have bn : t < rest.length := by omega);have y0:wr.cell? (zA w.heap.size 0)=some (zP gb):=cell_of_row _ _ 0 _ _ _ ((s.o.block _ (by have:=r.o.size;omega) (fun e=>by injection e with e;omega)).trans u.o);have yc:=bs.o wr t T.o be;have yg:=C.o.cell (j:=t) (by rw [qaA,zwK_len V.o U0];omega);rw [qaC,zwK_at V.o bn] at yg;have fg:=C.o.frozen t;have a7:=zH (zwK_set (f:=subF O y) V.o bn);have X:=Al.getD_ok z.o.2 ar t;have R:=Al.getD_ok ap.o.2 ar t;have t0:(0:Int)<=(t:Int):=U0;have t1:(t:Int)<(n:Int):=U0;have a6:zK (subF O y (rest.getD t 0) (row.getD t 0)=O.add (rest.getD t 0) (O.neg (O.mul y (row.getD t 0)))):=rfl;rw [a6.o] at a7;generalize rest.getD t 0=av at *;generalize row.getD t 0=bv at *;(have HM:zK (∀ W,SDrew wr W->zC 142 (Cf gb y bv) W fun e w'=>e=.returned (Y ((O.mul y bv:Nat):Int))/\SDrew wr w'):=fun W ⟨n',hW⟩=>by subst hW;refine (a2.o _ y bv (qaB T.o n') Z R).mono ?_;rintro e w' ⟨he,k,rfl⟩;exact ⟨he,n'+k,V0⟩);have a1:=bx.o y bv Z R;(have HS:zK (∀ W,SDrew wr W->zC 76 (Cf gb av ((O.mul y bv:Nat):Int)) W fun e w'=>e=.returned (Y ((O.add av (O.neg (O.mul y bv)):Nat):Int))/\SDrew wr w'):=fun W ⟨n',hW⟩=>by subst hW;refine (a8.o _ av _ (qaB T.o n') X a1).mono ?_;rintro e w' ⟨he,k,rfl⟩;exact ⟨he,n'+k,V0⟩);clear a6 a1;go_upto_region 11 with fail;refine qaI 15 (SDrew wr) U1 U1 ⟨1,rfl⟩ ?_;simp only [List.take_succ_cons,List.take_zero,List.drop_succ_cons,List.drop_zero]
         repeat (first
          | (apply qaJ rfl
             . intro W hS
               obtain⟨n',rfl⟩:=hS
               go_simp
               rfl
             go_simp)
          | (apply qaO rfl
             . intro W hS
               go_simp
               exact⟨rfl,rfl⟩
             . intro W hS
               first
                |exact HM.o W hS
                |exact HS.o W hS
             go_simp))
         refine qaE ?_;intro w2 b6;obtain⟨n',rfl⟩:=b6;generalize O.add av (O.neg (O.mul y bv))=zv at *;go_wp2;go_roundw;case rel=>refine⟨t+1,U0,gn,?_,grown_trans (grown_trans s.o (grown_drewN wr n' _)) (grown_set _ (zA g t) _)⟩;rw[<- a7.o,<- qbC];exact Row.set (w:=wr.drewN n') C.o t _
         case measure=>simp[intOf];omega
       . (obtain rfl : t = n:=by omega);(have bt:zK (Row wr w.heap.size g c' (nz (List.zipWith (subF O y) rest row))):=by have:=C.o;rw[<- bg,zwK_all V.o] at this;exact this);(have a3:=zH<|b1.o rest row y z.o ap.o Z);(have ao:=zH<|redI_step K.o Z b0.o z.o ap.o);(have al:=zH<|qeL J.o fun k h1 h2=>s.o.block k h2 (fun e=>by injection e with e;omega));(have ak:=zH<|(s.o.block _ (by have:=r.o.size;omega) (fun e=>by injection e with e;omega)).trans u.o);have cg:=Nat.le_trans bj s.o.size;go_wp2;go_roundw;case rel=>exact⟨i+1,_,Q++[(y:Int)],U0,gn,a3.o,ao.o,bt.o,al.o,ae.o,ak.o,T.o,cg⟩
         case measure=>simp[intOf];omega
  . (obtain rfl:i=rows.length:=by omega);go_wp2;go_ret2;exact⟨⟨g,c',V5,Q.length,c5,rest,rfl,E.o,z.o,K.o⟩,U.o⟩
theorem zero1_c(x:Int)(W:Wo):zC 249 #[Y x] W fun e w'=>e=.returned (.bool (x != 0))/\W=w':=by go_enter func249,ntmps249;go_wp2;go_ret;exact⟨rfl,rfl⟩
theorem nzIx_zero:∀ (v:LN)(k:Nat),nzIx v k<0->∀ x∈v,x=0
 |[],_,_,x,hx=>by simp at hx
 | y :: r,k,h,x,hx => by
   unfold nzIx at h
   by_cases hy:y=0
   . rw[if_pos hy] at h
     rcases List.mem_cons.1 hx with rfl|hx
     . exact hy
     . exact nzIx_zero r (k+1) h x hx
   . rw[if_neg hy] at h
     omega
theorem zero_c(v:LN)(A:OA)(c:Nat)(w:Wo)(i:zI w A (nz v))(j:v.length<=1000):
 zC 223 #[zL A v.length c] w fun e w'=>(∃b:Bool,e=.returned (.bool b)/\(b=true->∀x∈v,x=0))/\w=w':=by
 have g:=zH (indexnz_c 249 zero1_c (enters_of func249 U1 rfl) v A c w i j);have f:=zH (nzIx_zero v 0);clear i;generalize nzIx v 0=r at *;have d:zK (zC 55 #[zL A v.length c,.func (.func 249) #[] #[]] w fun e w'=>e=.returned (.bool (decide (0<=r)))/\w=w'):=by show Calls _ _ _ _ _;go_enter func55,ntmps55;go_wp2_with fail;refine g.o.mono ?_;rintro e w' ⟨rfl,rfl⟩;go_wp2;go_ret;exact⟨rfl,rfl⟩
 clear g;go_enter func223,ntmps223;go_wp2_with fail;refine d.o.mono ?_;rintro e w' ⟨rfl,rfl⟩;go_wp2;go_ret;exact⟨⟨_,rfl,fun h=>f.o (by simp at h;omega)⟩,rfl⟩
theorem has_c(J p m:Nat)(md l:LN)(n:Nat)(rows:LL)(A:OA)(c:Nat)(piv:LN)(I:OA)(K:Nat)(x:LN)(O:OA)(S:Nat)(w:Wo)(hF:FT p m md l)(U:GFAt w w.heap.size J p m l (logL l (p ^ m)))(T:zR w A (nzs rows))(L:Grid (p ^ m) rows.length n rows)(P:1<=n)(Q:n<=64)(W:zI w I (nz piv))(M:piv.length=rows.length)(N:∀ y∈piv,y<n)(R:rows.length<=64)(X:zI w O (nz x))(Z:Dv.Ok (p ^ m) n x):
 zC 183 #[D5 J n A rows.length c I rows.length K,zL O n S] w fun e w'=>(∃b:Bool,e=.returned (.bool b)/\(b=true->∀h:Al.Fld (p^m) (opsT p m l),Al.InC h n rows (Al.wd h x)))/\zB w w':=by
 have i:zK ((w.alloc (Cr J n A rows.length c I rows.length K)).rangeAt w.heap.size 0 (Ck J n A rows.length c I rows.length K)):=qeS (heap_alloc_new _ _);have d:zB w (w.alloc (Cr J n A rows.length c I rows.length K)):=zV.alloc zn _;have k:=zH (reduce_c J p m md l n rows A c piv I K x O S (w.alloc (Cr J n A rows.length c I rows.length K)) hF ((U.keep d).more d.size) ((T.keep d).more d.size) L P Q ((W.keep d).more d.size) M N R ((X.keep d).more d.size) Z);have f:=zH d;clear hF U T L W M N X Z d;go_enter func183,ntmps183;go_upto_region 1 with fail;generalize w.alloc (Cr J n A rows.length c I rows.length K)=D at *;go_wp2_with (refine wpList_load_mid rfl 122 (.tmp 2) rfl w.heap.size 0 rfl (Ck J n A rows.length c I rows.length K) _ i.o underlying122 rfl viewSz ?_);go_fit k.o;rintro e t ⟨⟨g,c',V,n',c'',rest,rfl,hrow,hok,hred⟩,hb1⟩;have z:=zH hok;have q:=zH hred;have r:=zH (f.o.trans (hb1.mono f.o.size));have u:zK (zC 223 #[zS g n c'] t fun e w'=>(∃b:Bool,e=.returned (.bool b)/\(b=true->∀x∈rest,x=0))/\t=w'):=by have:=zero_c rest (zO g) c' t (row_ints hrow) (by rw[hok.1];omega);rw[hok.1] at this;exact this
 clear hrow hok hred hb1 k i f;go_wp2_with fail;go_fit u.o;rintro e E ⟨⟨b,rfl,hbz⟩,rfl⟩;have s:=zH hbz;clear hbz u;go_wp2;go_ret;refine⟨⟨b,rfl,fun hb h=>?_⟩,r.o⟩;have H:=Al.El.fd (h:=h);have C:=s.o hb;refine(q.o h).congr fun j _=>?_;have B:Al.wd h rest j=0:=by
  unfold Al.wd
  rw[show rest.getD j 0=0 by
   by_cases v:j<rest.length
   . rw[Al.getD_at v];exact C _ (List.getElem_mem v)
   . exact qaZ U0]
  exact Al.El.of_zero
 rw[B,H.negz,H.zadd]
theorem inside1_c(t p m:Nat)(md l:LN)(n:Nat)(rows:LL)(A:OA)(c:Nat)(piv:LN)(s:OA)(z:Nat)(x:LN)(u:OA)(E v:Nat)(w:Wo)(hF:FT p m md l)(I:GFAt w w.heap.size t p m l (logL l (p^m)))(H:zR w A (nzs rows))(k:Grid (p^m) rows.length n rows)(B:1<=n)(C:n<=64)(J:zI w s (nz piv))(q:piv.length=rows.length)(r:∀y∈piv,y<n)(D:rows.length<=64)(K:zI w u (nz x))(M:Dv.Ok (p^m) n x)(L:w.rangeAt v 0 (Ck t n A rows.length c s rows.length z)):
 zC 182 #[zL u n E,zP v] w fun e w'=>(∃b:Bool,e=.returned (.bool b)/\(b=false->∀h:Al.Fld (p^m) (opsT p m l),Al.InC h n rows (Al.wd h x)))/\zB w w':=by have i:=zH (has_c t p m md l n rows A c piv s z x u E w hF I H k B C J q r D K M);have d:=zH L;clear hF I H k J q r K M L;go_enter func182,ntmps182;go_wp2_with (refine wpList_load_mid rfl 122 (.tmp 1) rfl v 0 rfl (Ck t n A rows.length c s rows.length z) _ d.o underlying122 rfl viewSz ?_);go_fit i.o;rintro e j ⟨⟨b,rfl,hbb⟩,hb1⟩;have g:=zH hbb;have f:=zH hb1;clear hbb hb1 i d;go_wp2;go_ret;exact⟨⟨_,rfl,fun h=>g.o (by simpa using h)⟩,f.o⟩
def RelIi(w:Wo)(n:Nat)(P:Nat->Prop)(v8:Value)(wr:Wo):Prop:=∃k:Nat,k<=n/\v8=Y k/\zB w wr/\∀i,i<k->P i
theorem indexin_c(R:List LI)(P:Nat->Prop)(A:OA)(c H:Nat)(w:Wo)(I:zR w A R)(K:R.length<=1000)(J:∀ (k:Nat)(Ao:OA)(co:Nat)(W:Wo),k<R.length->zB w W->zI W Ao (R.getD k [])->zC 182 #[zL Ao (R.getD k []).length co,zP H] W fun e w'=>(∃ b:Bool,e=.returned (.bool b)/\(b=false->P k))/\zB W w'):
 zC 159 #[zL A R.length c,.func (.func 182) #[] #[zP H]] w fun e w'=>(∃z:Int,e=.returned (Y z)/\(z<0->∀i,i<R.length->P i))/\zB w w':=by
 have s:=zH I;have u:=zH J;clear I J;go_enter func159,ntmps159;go_wp2;go_loopw [8] (fun v8 wr=>RelIi w R.length P v8 wr) (fun v8 _=>R.length-(intOf v8).toNat);case atStart=>exact⟨0,U0,rfl,Below.refl _ _,fun i h=>absurd h U0⟩
 case round =>
  obtain⟨k,C,rfl,n,p⟩:=hrel;have d:=zH n;have m:=zH p;clear n p;by_cases l:k<R.length
  . obtain ⟨b,o,q,v,rfl,x,y,j⟩ := (s.o.keep d.o).at_ (i := k) l;have t:=zH (u.o k q v wr l d.o (j.more d.o.size));have D:(0:Int)<=(k:Int):=U0;have E:(k:Int)<(R.length:Int):=U0;have B:IntKind.i64.wrap ((k:Int)+1)=(k:Int)+1:=IntWalk.i64_in _ U0;clear j;generalize R.getD k []=r at *;go_wp2_with fail;go_fit t.o;rintro e w' ⟨⟨bb,rfl,hbb⟩,hb2⟩;(have f:=zH<|d.o.trans (hb2.mono d.o.size));have g:=zH hbb;clear hb2 hbb;cases bb
    . go_wp2;go_roundw
      case rel=>exact⟨k+1,U0,gn,f.o,fun i hi=>by
       rcases Nat.lt_succ_iff_lt_or_eq.1 hi with h|rfl
       . exact m.o i h
       . first|exact g.o rfl|exact g.o trivial⟩
      case measure=>simp[intOf];omega
    . go_wp2;go_ret;exact⟨⟨_,rfl,fun h=>U0⟩,f.o⟩
  . (obtain rfl:k=R.length:=by omega);go_wp2;go_ret;exact⟨⟨_,rfl,fun _=>m.o⟩,d.o⟩
theorem containsin_c(R:List LI)(P:Nat->Prop)(A:OA)(c m:Nat)(w:Wo)(n:zR w A R)(q:R.length<=1000)(p:∀(k:Nat)(Ao:OA)(co:Nat)(W:Wo),k<R.length->zB w W->zI W Ao (R.getD k [])->zC 182 #[zL Ao (R.getD k []).length co,zP m] W fun e w'=>(∃b:Bool,e=.returned (.bool b)/\(b=false->P k))/\zB W w'):
 zC 102 #[zL A R.length c,.func (.func 182) #[] #[zP m]] w fun e w'=>(∃b:Bool,e=.returned (.bool b)/\(b=false->∀i,i<R.length->P i))/\zB w w':=by
 have f:=zH (indexin_c R P A c m w n q p);clear n p;go_enter func102,ntmps102;go_wp2_with fail;refine f.o.mono ?_;rintro e w' ⟨⟨z,rfl,hz⟩,hb⟩;have j:=zH hz;have d:=zH hb;clear hz hb;by_cases l:0<=z
 . go_wp2;go_ret;exact⟨⟨_,rfl,fun h=>by simp at h<;>omega⟩,d.o⟩
 . (have g:zK (z<0):=by show z<0;omega);clear l;go_wp2;go_ret;exact⟨⟨_,rfl,fun _=>j.o g.o⟩,d.o⟩
end Go.Proofs.YtocbdafcolbfeaaGreat
