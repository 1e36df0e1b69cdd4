/- Parts of the proof. -/
import Derived.Test.YtndipkplnkfoeaaGreatR24
import Derived.Test.YtndipkplnkfoeaaGreatR25
set_option maxRecDepth 100000
set_option maxHeartbeats 8000000
namespace Go.Proofs.YtndipkplnkfoeaaGreat
open Go.RowKit Pln
def RedI(O:Ops)(q n:Nat)(rows:List (List Nat))(x rest:List Nat):Prop:=∀h:Al.Fld q O,Al.InC h n rows fun j=>Al.wd h x j+-(Al.wd h rest j)
theorem redI_start(O:Ops)(q n:Nat)(rows:List (List Nat))(x:List Nat):RedI O q n rows x x:=fun h=>((Al.inC_lin n rows).zero).congr fun _ _=>((Al.El.fd (h:=h)).addN _).symm
theorem redI_step{O:Ops}{q n:Nat}{rows:List (List Nat)}{x rest row:List Nat}{y:Nat}(k:RedI O q n rows x rest)(m:y<q)(g:row∈rows)(i:Dv.Ok q n rest)(l:Dv.Ok q n row):RedI O q n rows x (List.zipWith (subF O y) rest row):=fun h=>by
 have H:=Al.El.fd (h:=h)
 refine((k h).add ((Al.InC.mem g).mul (Al.El.of h y))).congr fun j _=>?_
 rw[(subF_ok h m i l).2 j]
 have c:∀a b:Al.El q O h,-(a+-b)=-a+b:=fun a b=>by
  refine(H.negu ?_).symm
  have d:Std.Associative (α:=Al.El q O h) (·+·):=⟨H.addA⟩
  have f:Std.Commutative (α:=Al.El q O h) (·+·):=⟨H.addC⟩
  rw[show a+-b+(-a+b)=(a+-a)+(b+-b) by ac_rfl,H.addN,H.addN,H.addZ]
 rw[c,H.addA]
def RelRd(w W1:World)(vc:List Value)(g c n q:Nat)(O:Ops)(rows:List (List Nat))(x:List Nat)(np:Nat)(v5 v16:Value)(wr:World):Prop:=
 ∃(i:Nat)(rest:List Nat)(ys:List Int),i<=np/\v16=Y i/\Dv.Ok q n rest/\RedI O q n rows x rest/\Row wr w.heap.size g c (nz rest)/\wr.ownsRow W1.heap.size 3 1 v5 ys.length (ys.map (Value.int .i64))/\ys.length=i/\
  wr.heap[w.heap.size]?=some (.cells vc.toArray 122 (0,0))/\Below w.heap.size w wr/\W1.heap.size<=wr.heap.size
def RelRe(wb:World)(B g c:Nat)(f:Nat->Nat->Nat)(rest row:List Nat)(v38:Value)(wr:World):Prop:=
 ∃t:Nat,t<=rest.length/\v38=Y t/\Row wr B g c (nz (zwK f rest row t))/\wb.grownBy wr (some g)
theorem qeL{w w':World}{B n:Nat}{e:TypeId}{s:Nat}{v:Value}{xs:List Value}(h:w.ownsRow B e s v n xs)(l:∀k,B<=k->k<w.heap.size->w'.heap[k]?=w.heap[k]?):w'.ownsRow B e s v n xs:=by
 refine⟨h.1,?_⟩;rcases h.2 with⟨f,i⟩|⟨g,b,cur,j,c,d,r⟩
 . exact .inl ⟨f,i⟩
 . exact .inr ⟨g,b,cur,j,c,(l g c (block_lt d)).trans d,r⟩
theorem viewSz:(Tryz.prog.info? 122).map (·.size)=some 4:=U1
def RedPost(w:World)(O:Ops)(q n:Nat)(rows:List (List Nat))(x:List Nat)(e:Ending)(w':World):Prop:=
 (∃(g c':Nat)(V:Option Addr)(n' c'':Nat)(rest:List Nat),e=.returned (.tuple #[zS g n c',zL V n' c''])/\Row w' w.heap.size g c' (nz rest)/\Dv.Ok q n rest/\RedI O q n rows x rest)/\Below w.heap.size w w'
theorem reduce_c(gb p m:Nat)(md l:List Nat)(n:Nat)(rows:List (List Nat))(A:Option Addr)(c:Nat)(piv:List Nat)(VA:Option Addr)(ck:Nat)(x:List Nat)(Ax:Option Addr)(cx:Nat)(w:World)(hF:FT p m md l)(hG:GFAt w w.heap.size gb p m l (logL l (p ^ m)))(hA:RowsAt w w.heap.size A (nzs rows))(ct:Grid (p ^ m) rows.length n rows)(cz:1<=n)(c3:n<=64)(hV:IntsAt w w.heap.size VA (nz piv))(cw:piv.length=rows.length)(cy:∀ y∈piv,y<n)(c4:rows.length<=64)(hX:IntsAt w w.heap.size Ax (nz x))(hx:Dv.Ok (p ^ m) n x):
 zC 222 #[.agg #[zP gb,Y (n:Int),zL A rows.length c,zL VA rows.length ck],zL Ax n cx] w (RedPost w (opsT p m l) (p^m) n rows x):=by
 have a1:Hid ((w.alloc (Cx gb n A rows.length c VA rows.length ck)).heap[w.heap.size]?=some (.cells (Cv gb n A rows.length c VA rows.length ck).toArray 122 (0,0))):=heap_alloc_new _ _;have I:Hid (Below w.heap.size w (w.alloc (Cx gb n A rows.length c VA rows.length ck))):=(Below.refl _ _).alloc (Nat.le_refl _) _;have bb:Hid (w.heap.size<(w.alloc (Cx gb n A rows.length c VA rows.length ck)).heap.size):=by show _ < _;simp
 have a4:Hid (∀(W:World)(a b:Nat),Below w.heap.size w W->a<p^m->b<p^m->zC 142 (Cn gb a b) W (Quiet (Y (((opsT p m l).mul a b:Nat):Int)) W)):=fun W a b hW Z S=>mul_c a b gb p m w.heap.size md l W hF (hG.keep hW) Z S;have ba:Hid (∀(W:World)(a b:Nat),Below w.heap.size w W->a<p^m->b<p^m->zC 76 (Cn gb a b) W (Quiet (Y (((opsT p m l).add a ((opsT p m l).neg b):Nat):Int)) W)):=fun W a b hW Z S=>sub_c a b gb p m w.heap.size md l W hF (hG.keep hW) hW.size Z S;have bw:=zH hG.1;have b2:Hid (∀a b y,Dv.Ok (p^m) n a->Dv.Ok (p^m) n b->y<p^m->Dv.Ok (p^m) n (List.zipWith (subF (opsT p m l) y) a b)):=fun a b y Z S hy=>(subF_ok (Al.fld_of hF) hy Z S).1;have bz:Hid (∀a b,a<p^m->b<p^m->(opsT p m l).mul a b<p^m):=fun a b Z S=>mulT_lt hF Z S;have HA:=zH hA;have HV:=zH hV;have bx:=zH ct;have b0:=zH cy;have ap:=zH cw;have cl:=zH hx.1;have b3:=zH hx;have aw:0<p^m:=by have:=(Al.fld_of hF).q1;omega
 have bf:zC 74 #[zL Ax n cx] (w.alloc (Cx gb n A rows.length c VA rows.length ck)) fun e w'=>(∃g c',e=.returned (zS g n c')/\Row w' (w.alloc (Cx gb n A rows.length c VA rows.length ck)).heap.size g c' (nz x))/\Below (w.alloc (Cx gb n A rows.length c VA rows.length ck)).heap.size (w.alloc (Cx gb n A rows.length c VA rows.length ck)) w':=by have:=sclone_c (nz x) Ax cx (w.alloc (Cx gb n A rows.length c VA rows.length ck)) ((hX.keep I.out).more I.out.size) (by rw[qaA,hx.1];omega) (by rw[qaA,hx.1];omega);rw[qaA,hx.1] at this;exact this
 have a0:=zH bf;clear hF hG hA hV ct cy cw hX hx bf;generalize opsT p m l=O at *;generalize p^m=q at *;go_enter Tryz.func222,Tryz.ntmps222;go_upto_region 1 with fail;generalize w.alloc (Cx gb n A rows.length c VA rows.length ck)=W0 at *;go_wp2_with fail;(with_reducible refine a0.out.mono ?_);rintro e Q ⟨⟨g,c',rfl,d⟩,hb1⟩;have hg:=d.lt;have cs:=bb.out;have a2:Hid (Q.heap[w.heap.size]?=some (.cells (Cv gb n A rows.length c VA rows.length ck).toArray 122 (0,0))):=(hb1.block _ bb.out).trans a1.out;have az:=zH (I.out.trans (hb1.mono I.out.size))
 have ae:Hid (RelRd w Q (Cv gb n A rows.length c VA rows.length ck) g c' n q O rows x rows.length (zL none 0 0) (Y ((0:Nat):Int)) Q):=
  ⟨0,x,[],U0,rfl,b3.out,redI_start _ _ _ _ _,d.base U0,World.ownsRow_nil _ _ _ _,rfl,a2.out,az.out,Nat.le_refl _⟩
 have y3:Q.cell? (zA w.heap.size 3)=some (zL VA rows.length ck):=cell_of_row _ _ 3 _ _ _ a2.out;clear d hb1 a0 a1 I az;go_wp2_with fail;go_loopw [5,16] (fun v5 v16 wr=>RelRd w Q (Cv gb n A rows.length c VA rows.length ck) g c' n q O rows x rows.length v5 v16 wr) (fun _ v16 _=>rows.length-(intOf v16).toNat);case atStart=>exact ae.out
 case round =>
  obtain⟨i,rest,E,hi,rfl,bh,aj,d,P,bs,ah,bd,ay⟩:=hrel;have u:=zH bh;have K:=zH aj;have D:=zH d;have ad:=zH P;have au:=zH bs;have ac:=zH ah;have V:=zH bd;obtain⟨V5,c5,rfl,_⟩:=own_slice' P;clear bh aj d P bs ah bd ae y3;by_cases H:i<rows.length
  . obtain ⟨bp,op,rfl,cm,cd⟩ := ((HV.out.keep V.out).more V.out.size).at_ (k := i) (by rw [qaA,ap.out];exact H);rw [qaC] at cd;(have cg:piv.getD i 0<n:=by rw [show piv.getD i 0=piv[i]'(by rw [ap.out];exact H) by simp [List.getD,show i<piv.length by rw [ap.out];exact H]];exact b0.out _ (List.getElem_mem _));have i0:(0:Int)<=(i:Int):=U0;have i1:(i:Int)<(rows.length:Int):=U0;generalize piv.getD i 0=pv at *;have p0:(0:Int)<=(pv:Int):=U0;have p1:(pv:Int)<(n:Int):=U0;have ce:=D.out.cell (j:=pv) (by rw [qaA,u.out.1];exact cg);rw [qaC] at ce;have aa:rest.getD pv 0<q:=Al.getD_ok u.out.2 aw pv;generalize cr:rest.getD pv 0=y at *;have M:Below wr.heap.size wr (wr.alloc (.cells #[Y (y:Int)] 3)):=(Below.refl _ _).alloc (Nat.le_refl _) _
    obtain⟨g6,c6,R,ak,al,bc,bo,_,_⟩:=qbY (W:=wr.alloc (.cells #[Y (y:Int)] 3)) (B:=Q.heap.size) (v:=zL V5 E.length c5) (xs:=E) (own_keepX ad.out M) (Nat.le_trans ay M.size) (zs:=[(y:Int)]) (A:=some (zA wr.heap.size 0)) (c:=1) (fun _=>⟨wr.heap.size,0,rfl,U2,fun j hj=>by
     have cf:j=0:=by simpa using hj
     subst cf
     exact cell_of_row _ _ 0 _ _ _ (heap_alloc_new wr (.cells #[Y (y:Int)] 3))⟩) U2 (by have:=au.out;omega) U2
    have af:=zH ak;have T:Hid (Below Q.heap.size wr R):=(M.mono ay).trans bc;have bn:Q.heap.size<=R.heap.size:=Nat.le_trans ay (Nat.le_trans M.size bo);have L:Hid (Row R w.heap.size g c' (nz rest)):=D.out.below T.out hg.2;have s:Hid (R.heap[w.heap.size]?=some (.cells (Cv gb n A rows.length c (some (zA bp op)) rows.length ck).toArray 122 (0,0))):=(T.out.block _ U0).trans ac.out;have o:Hid (Below w.heap.size w R):=V.out.trans (T.out.mono U0);(have J:Hid (R.ownsRow Q.heap.size 3 1 (zS g6 (E.length+1) c6) (E++[(y:Int)]).length ((E++[(y:Int)]).map (Value.int .i64))):=by have:=al;unfold Row at this;rw[show(E++[(y:Int)]).length=E.length+1 by simp] at this ⊢;exact this);(have ag:Hid ((E++[(y:Int)]).length=i+1):=by show _=_;rw[List.length_append,au.out];rfl);clear M ak al bc bo T D ad ac au;by_cases cj:y=0
    . subst cj;go_wp2_with (at_builtin;refine qaP rfl (.tmp 25) (.tmp 27) 23 rfl rfl rfl af.out ?_);go_roundw;case rel=>exact⟨i+1,rest,E++[((0:Nat):Int)],U0,gn,u.out,K.out,L.out,J.out,ag.out,s.out,o.out,bn⟩
      case measure=>exact mE
    . have cq : ((y : Int) != 0) = true := bne_iff_ne.2 U0;obtain ⟨br,ab,Ai,ci,b6,b9,h,N⟩:=HA.out.at_ (i:=i) (by rw [nzs_len];exact H);rw [nzs_getD] at h N;rw [qaA] at h;have ax:=bx.out.row H;have bm:=Al.mem_getD H;generalize rows.getD i []=row at *;subst b6;have ar:Hid (Dv.Ok q n row):=ax;have b1:=zH bm;have C:row.length=n:=ax.1;rw [C] at h;obtain ⟨bi,oi,rfl,b8,be⟩:=N (by rw [qaA,C];omega);(have bt:Hid (∀ (W:World) j,Below w.heap.size w W->j<n->W.cell? (zA bi (oi+j))=some (Y ((row.getD j 0:Nat):Int))):=fun W j hW hj=>by have:=be j (by rw [qaA,C];exact hj);rw [qaC] at this;exact (hW.cell (p:=(zA bi (oi+j))) b8).trans this);have yr:R.cell? (zA br (ab+i))=some (zL (some (zA bi oi)) n ci):=(o.out.cell (p:=(zA br (ab+i))) b9).trans h;have y2:R.cell? (zA w.heap.size 2)=some (zL (some (zA br ab)) rows.length c):=cell_of_row _ _ 2 _ _ _ s.out;have a7:=zH u.out.1;(have X:Hid (rest.length=row.length):=by show _=_;rw [u.out.1,C]);have a6:Hid (RelRe R w.heap.size g c' (subF O y) rest row (Y ((0:Nat):Int)) R):=⟨0,U0,rfl,by rw [zwK_zero];exact L.out,World.grownBy.refl _ _⟩;have cn:gb<w.heap.size:=bw.out;have co:¬ g=bi:=U0;clear ax bm C be h;go_wp2_with (at_builtin;refine qaP rfl (.tmp 25) (.tmp 27) 23 rfl rfl rfl af.out ?_);go_loopw [38] (fun v38 wr=>RelRe R w.heap.size g c' (subF O y) rest row v38 wr) (fun v38 _=>n-(intOf v38).toNat);case atStart=>exact a6.out
      case round =>
       obtain⟨t,ht,rfl,d,ai⟩:=hrel;have z:=zH d;have r:=zH ai;clear d ai a6 y2;have U:Hid (Below w.heap.size w wr):=o.out.grown r.out (by have:=o.out.size;omega) (fun k hk=>by injection hk with hk;omega);have bj:=a7.out;by_cases bg:t<n
       . (have bq : t < rest.length := by omega);have y0:wr.cell? (zA w.heap.size 0)=some (zP gb):=cell_of_row _ _ 0 _ _ _ ((r.out.block _ (by have:=o.out.size;omega) (fun e=>by injection e with e;omega)).trans s.out);have yc:wr.cell? (zA bi (oi+t))=some (Y ((row.getD t 0:Nat):Int)):=bt.out wr t U.out bg;have yg:=z.out.cell (j:=t) (by rw [qaA,zwK_len X.out U0];omega);rw [qaC,zwK_at X.out bq] at yg;have fg:=z.out.frozen t;have a9:=zH (zwK_set (f:=subF O y) X.out bq);have Z:rest.getD t 0<q:=Al.getD_ok u.out.2 aw t;have S:row.getD t 0<q:=Al.getD_ok ar.out.2 aw t;have t0:(0:Int)<=(t:Int):=U0;have t1:(t:Int)<(n:Int):=U0;have a8:Hid (subF O y (rest.getD t 0) (row.getD t 0)=O.add (rest.getD t 0) (O.neg (O.mul y (row.getD t 0)))):=rfl;rw [a8.out] at a9;generalize rest.getD t 0=av at *;generalize row.getD t 0=bv at *;(have HM:Hid (∀ W,SDrew wr W->zC 142 (Cn gb y bv) W fun e w'=>e=.returned (Y ((O.mul y bv:Nat):Int))/\SDrew wr w'):=fun W ⟨n',hW⟩=>by subst hW;refine (a4.out _ y bv (qaB U.out n') aa S).mono ?_;rintro e w' ⟨he,k,rfl⟩;exact ⟨he,n'+k,U9⟩);have a3:=bz.out y bv aa S;(have HS:Hid (∀ W,SDrew wr W->zC 76 (Cn gb av ((O.mul y bv:Nat):Int)) W fun e w'=>e=.returned (Y ((O.add av (O.neg (O.mul y bv)):Nat):Int))/\SDrew wr w'):=fun W ⟨n',hW⟩=>by subst hW;refine (ba.out _ av _ (qaB U.out n') Z a3).mono ?_;rintro e w' ⟨he,k,rfl⟩;exact ⟨he,n'+k,U9⟩);clear a8 a3;go_upto_region 11 with fail;refine qaI 15 (SDrew wr) U1 U1 ⟨1,rfl⟩ ?_;simp only [List.take_succ_cons,List.take_zero,List.drop_succ_cons,List.drop_zero]
         repeat (first
          | (apply qaJ rfl
             . intro W hS
               obtain⟨n',rfl⟩:=hS
               go_simp
               rfl
             go_simp)
          | (apply qaO rfl
             . intro W hS
               go_simp
               exact⟨rfl,rfl⟩
             . intro W hS
               first
                |exact HM.out W hS
                |exact HS.out W hS
             go_simp))
         refine qaE ?_;intro w2 b7;obtain⟨n',rfl⟩:=b7;generalize O.add av (O.neg (O.mul y bv))=zv at *;go_wp2_with fail;go_roundw;case rel=>refine⟨t+1,U0,gn,?_,grown_trans (grown_trans r.out (grown_drewN wr n' _)) (grown_set _ (zA g t) _)⟩;rw[<- a9.out,<- qbC];exact Row.set (w:=wr.drewN n') z.out t _
         case measure=>exact mE
       . (obtain rfl : t = n:=by omega);(have bu:Hid (Row wr w.heap.size g c' (nz (List.zipWith (subF O y) rest row))):=by have:=z.out;rw[<- bj,zwK_all X.out] at this;exact this);have a5:Hid (Dv.Ok q t (List.zipWith (subF O y) rest row)):=b2.out rest row y u.out ar.out aa;have aq:Hid (RedI O q t rows x (List.zipWith (subF O y) rest row)):=redI_step K.out aa b1.out u.out ar.out;have ao:Hid (wr.ownsRow Q.heap.size 3 1 (zS g6 (E.length+1) c6) (E++[(y:Int)]).length ((E++[(y:Int)]).map (Value.int .i64))):=qeL J.out fun k h1 h2=>r.out.block k h2 (fun e=>by injection e with e;omega);have an:Hid (wr.heap[w.heap.size]?=some (.cells (Cv gb t (some (zA br ab)) rows.length c (some (zA bp op)) rows.length ck).toArray 122 (0,0))):=(r.out.block _ (by have:=o.out.size;omega) (fun e=>by injection e with e;omega)).trans s.out;have ch:Q.heap.size<=wr.heap.size:=Nat.le_trans bn r.out.size;go_wp2_with fail;go_roundw;case rel=>exact⟨i+1,_,E++[(y:Int)],U0,gn,a5.out,aq.out,bu.out,ao.out,ag.out,an.out,U.out,ch⟩
         case measure=>exact mE
  . (obtain rfl:i=rows.length:=by omega);go_wp2_with fail;go_ret2;exact⟨⟨g,c',V5,E.length,c5,rest,rfl,D.out,u.out,K.out⟩,V.out⟩
theorem zero1_c(x:Int)(W:World):zC 249 #[Y x] W fun e w'=>e=.returned (.bool (x != 0))/\W=w':=by go_enter Tryz.func249,Tryz.ntmps249;go_wp2_with fail;go_ret;exact⟨rfl,rfl⟩
theorem nzIx_zero:∀ (v:List Nat) (k:Nat),nzIx v k<0->∀ x∈v,x=0
 |[],_,_,x,hx=>by simp at hx
 | y :: r,k,h,x,hx => by
   unfold nzIx at h
   by_cases hy:y=0
   . rw[if_pos hy] at h
     rcases List.mem_cons.1 hx with rfl|hx
     . exact hy
     . exact nzIx_zero r (k+1) h x hx
   . rw[if_neg hy] at h
     omega
theorem zero_c(v:List Nat)(A:Option Addr)(c:Nat)(w:World)(i:IntsAt w w.heap.size A (nz v))(j:v.length<=1000):
 zC 223 #[zL A v.length c] w fun e w'=>(∃b:Bool,e=.returned (.bool b)/\(b=true->∀x∈v,x=0))/\w=w':=by
 have g:=zH (indexnz_c 249 zero1_c (enters_of Tryz.func249 U1 rfl) v A c w i j);have f:=zH (nzIx_zero v 0);clear i;generalize nzIx v 0=r at *;have d:Hid (zC 55 #[zL A v.length c,.func (.func 249) #[] #[]] w fun e w'=>e=.returned (.bool (decide (0<=r)))/\w=w'):=by show Calls _ _ _ _ _;go_enter Tryz.func55,Tryz.ntmps55;go_wp2_with fail;refine g.out.mono ?_;rintro e w' ⟨rfl,rfl⟩;go_wp2_with fail;go_ret;exact⟨rfl,rfl⟩
 clear g;go_enter Tryz.func223,Tryz.ntmps223;go_wp2_with fail;refine d.out.mono ?_;rintro e w' ⟨rfl,rfl⟩;go_wp2_with fail;go_ret;exact⟨⟨_,rfl,fun h=>f.out (by simp at h;omega)⟩,rfl⟩
theorem has_c(I p m:Nat)(md l:List Nat)(n:Nat)(rows:List (List Nat))(A:Option Addr)(c:Nat)(piv:List Nat)(E:Option Addr)(J:Nat)(x:List Nat)(N:Option Addr)(R:Nat)(w:World)(hF:FT p m md l)(T:GFAt w w.heap.size I p m l (logL l (p ^ m)))(S:RowsAt w w.heap.size A (nzs rows))(K:Grid (p ^ m) rows.length n rows)(O:1<=n)(P:n<=64)(U:IntsAt w w.heap.size E (nz piv))(L:piv.length=rows.length)(M:∀ y∈piv,y<n)(Q:rows.length<=64)(W:IntsAt w w.heap.size N (nz x))(X:Dv.Ok (p ^ m) n x):
 zC 183 #[.agg #[zP I,Y (n:Int),zL A rows.length c,zL E rows.length J],zL N n R] w fun e w'=>(∃b:Bool,e=.returned (.bool b)/\(b=true->∀h:Al.Fld (p^m) (opsT p m l),Al.InC h n rows (Al.wd h x)))/\Below w.heap.size w w':=by
 have i:Hid ((w.alloc (Cx I n A rows.length c E rows.length J)).rangeAt w.heap.size 0 (Cv I n A rows.length c E rows.length J)):=range_of_row (heap_alloc_new _ _);have d:Below w.heap.size w (w.alloc (Cx I n A rows.length c E rows.length J)):=(Below.refl _ _).alloc (Nat.le_refl _) _;have k:=zH (reduce_c I p m md l n rows A c piv E J x N R (w.alloc (Cx I n A rows.length c E rows.length J)) hF ((T.keep d).more d.size) ((S.keep d).more d.size) K O P ((U.keep d).more d.size) L M Q ((W.keep d).more d.size) X);have f:=zH d;clear hF T S K U L M W X d;go_enter Tryz.func183,Tryz.ntmps183;go_upto_region 1 with fail;generalize w.alloc (Cx I n A rows.length c E rows.length J)=C at *;go_wp2_with (refine wpList_load_mid rfl 122 (.tmp 2) rfl w.heap.size 0 rfl (Cv I n A rows.length c E rows.length J) _ i.out Tryz.underlying122 rfl viewSz ?_);(with_reducible refine k.out.mono ?_);rintro e s ⟨⟨g,c',V,n',c'',rest,rfl,hrow,hok,hred⟩,hb1⟩;have v:=zH hok;have o:=zH hred;have q:=zH (f.out.trans (hb1.mono f.out.size));have t:Hid (zC 223 #[zS g n c'] s fun e w'=>(∃b:Bool,e=.returned (.bool b)/\(b=true->∀x∈rest,x=0))/\s=w'):=by have:=zero_c rest (zO g) c' s (row_ints hrow) (by rw[hok.1];omega);rw[hok.1] at this;exact this
 clear hrow hok hred hb1 k i f;go_wp2_with fail;(with_reducible refine t.out.mono ?_);rintro e D ⟨⟨b,rfl,hbz⟩,rfl⟩;have r:=zH hbz;clear hbz t;go_wp2_with fail;go_ret;refine⟨⟨b,rfl,fun hb h=>?_⟩,q.out⟩;have H:=Al.El.fd (h:=h);have B:=r.out hb;refine(o.out h).congr fun j _=>?_;have z:Al.wd h rest j=0:=by
  unfold Al.wd
  rw[show rest.getD j 0=0 by
   by_cases u:j<rest.length
   . rw[Al.getD_at u];exact B _ (List.getElem_mem u)
   . exact qaZ U0]
  exact Al.El.of_zero
 rw[z,H.negz,H.zadd]
theorem inside1_c(s p m:Nat)(md l:List Nat)(n:Nat)(rows:List (List Nat))(A:Option Addr)(c:Nat)(piv:List Nat)(r:Option Addr)(v:Nat)(x:List Nat)(t:Option Addr)(D u:Nat)(w:World)(hF:FT p m md l)(H:GFAt w w.heap.size s p m l (logL l (p^m)))(E:RowsAt w w.heap.size A (nzs rows))(k:Grid (p^m) rows.length n rows)(z:1<=n)(B:n<=64)(I:IntsAt w w.heap.size r (nz piv))(o:piv.length=rows.length)(q:∀y∈piv,y<n)(C:rows.length<=64)(J:IntsAt w w.heap.size t (nz x))(L:Dv.Ok (p^m) n x)(K:w.rangeAt u 0 (Cv s n A rows.length c r rows.length v)):
 zC 182 #[zL t n D,zP u] w fun e w'=>(∃b:Bool,e=.returned (.bool b)/\(b=false->∀h:Al.Fld (p^m) (opsT p m l),Al.InC h n rows (Al.wd h x)))/\Below w.heap.size w w':=by have i:=zH (has_c s p m md l n rows A c piv r v x t D w hF H E k z B I o q C J L);have d:=zH K;clear hF H E k I o q J L K;go_enter Tryz.func182,Tryz.ntmps182;go_wp2_with (refine wpList_load_mid rfl 122 (.tmp 1) rfl u 0 rfl (Cv s n A rows.length c r rows.length v) _ d.out Tryz.underlying122 rfl viewSz ?_);(with_reducible refine i.out.mono ?_);rintro e j ⟨⟨b,rfl,hbb⟩,hb1⟩;have g:=zH hbb;have f:=zH hb1;clear hbb hb1 i d;go_wp2_with fail;go_ret;exact⟨⟨_,rfl,fun h=>g.out (by simpa using h)⟩,f.out⟩
def RelIi(w:World)(n:Nat)(P:Nat->Prop)(v8:Value)(wr:World):Prop:=∃k:Nat,k<=n/\v8=Y k/\Below w.heap.size w wr/\∀i,i<k->P i
theorem indexin_c(R:List (List Int))(P:Nat->Prop)(A:Option Addr)(c H:Nat)(w:World)(I:RowsAt w w.heap.size A R)(K:R.length<=1000)(J:∀ (k:Nat) (Ao:Option Addr) (co:Nat) (W:World),k<R.length->Below w.heap.size w W->IntsAt W W.heap.size Ao (R.getD k [])->zC 182 #[zL Ao (R.getD k []).length co,zP H] W fun e w'=>(∃ b:Bool,e=.returned (.bool b)/\(b=false->P k))/\Below W.heap.size W w'):
 zC 159 #[zL A R.length c,.func (.func 182) #[] #[zP H]] w fun e w'=>(∃z:Int,e=.returned (Y z)/\(z<0->∀i,i<R.length->P i))/\Below w.heap.size w w':=by
 have s:=zH I;have u:=zH J;clear I J;go_enter Tryz.func159,Tryz.ntmps159;go_wp2_with fail;go_loopw [8] (fun v8 wr=>RelIi w R.length P v8 wr) (fun v8 _=>R.length-(intOf v8).toNat);case atStart=>exact⟨0,U0,rfl,Below.refl _ _,fun i h=>absurd h U0⟩
 case round =>
  obtain⟨k,C,rfl,n,p⟩:=hrel;have d:=zH n;have m:=zH p;clear n p;by_cases l:k<R.length
  . obtain ⟨b,o,q,v,rfl,x,y,j⟩ := (s.out.keep d.out).at_ (i := k) l;have t:=zH (u.out k q v wr l d.out (j.more d.out.size));have D:(0:Int)<=(k:Int):=U0;have E:(k:Int)<(R.length:Int):=U0;have B:IntKind.i64.wrap ((k:Int)+1)=(k:Int)+1:=IntWalk.i64_in _ U0;clear j;generalize R.getD k []=r at *;go_wp2_with fail;(with_reducible refine t.out.mono ?_);rintro e w' ⟨⟨bb,rfl,hbb⟩,hb2⟩;have f:Hid (Below w.heap.size w w'):=d.out.trans (hb2.mono d.out.size);have g:=zH hbb;clear hb2 hbb;cases bb
    . go_wp2_with fail;go_roundw
      case rel=>exact⟨k+1,U0,gn,f.out,fun i hi=>by
       rcases Nat.lt_succ_iff_lt_or_eq.1 hi with h|rfl
       . exact m.out i h
       . first|exact g.out rfl|exact g.out trivial⟩
      case measure=>exact mE
    . go_wp2_with fail;go_ret;exact⟨⟨_,rfl,fun h=>U0⟩,f.out⟩
  . (obtain rfl:k=R.length:=by omega);go_wp2_with fail;go_ret;exact⟨⟨_,rfl,fun _=>m.out⟩,d.out⟩
theorem containsin_c(R:List (List Int))(P:Nat->Prop)(A:Option Addr)(c m:Nat)(w:World)(n:RowsAt w w.heap.size A R)(p:R.length<=1000)(o:∀(k:Nat)(Ao:Option Addr)(co:Nat)(W:World),k<R.length->Below w.heap.size w W->IntsAt W W.heap.size Ao (R.getD k [])->zC 182 #[zL Ao (R.getD k []).length co,zP m] W fun e w'=>(∃b:Bool,e=.returned (.bool b)/\(b=false->P k))/\Below W.heap.size W w'):
 zC 102 #[zL A R.length c,.func (.func 182) #[] #[zP m]] w fun e w'=>(∃b:Bool,e=.returned (.bool b)/\(b=false->∀i,i<R.length->P i))/\Below w.heap.size w w':=by
 have f:=zH (indexin_c R P A c m w n p o);clear n o;go_enter Tryz.func102,Tryz.ntmps102;go_wp2_with fail;refine f.out.mono ?_;rintro e w' ⟨⟨z,rfl,hz⟩,hb⟩;have j:=zH hz;have d:=zH hb;clear hz hb;by_cases l:0<=z
 . go_wp2_with fail;go_ret;exact⟨⟨_,rfl,fun h=>by simp at h<;>omega⟩,d.out⟩
 . (have g:Hid (z<0):=by show z<0;omega);clear l;go_wp2_with fail;go_ret;exact⟨⟨_,rfl,fun _=>j.out g.out⟩,d.out⟩
theorem results_row_23{P:Program}{fn:Func}{p q r:Tmp}{j:TypeId}(h:fn.results=#[.cell p j,.cell q j,.tmp r])(tmps:Array Value)(w:World)(g l:Nat)(t s:TypeId)(cs i:Array Value)(fr k:Nat × Nat)(d:TypeDesc)(u:Value)(y:tmps.getD p undef=zP g)(z:tmps.getD q undef=zP l)(A:tmps.getD r undef=u)(v:w.heap[g]?=some (.cells cs t fr))(m:w.heap[l]?=some (.cells i s k))(o:P.underlying j=some d)(hd:(match d with|.struct _|.array _ _=>true|_=>false)=true)(x:(P.info? j).map (·.size)=some cs.size)(n:(P.info? j).map (·.size)=some i.size):
 (results fn tmps).run P w=.ok (.tuple #[.agg cs,.agg i,u]) w:=by
 have b:tmps[p]?.getD undef=zP g:=by simpa using y
 have c:tmps[q]?.getD undef=zP l:=by simpa using z
 have f:tmps[r]?.getD undef=u:=by simpa using A
 simp[results,h,b,c,f,asAddr,run_loadVar_row w g t j cs fr d v o hd x,run_loadVar_row w l s j i k d m o hd n]
structure BXT (w:World) (bs:List (List Value × TypeId)) (W:World):Prop where
 box:∀i cs t,bs[i]?=some (cs,t)->W.heap[w.heap.size+i]?=some (.cells cs.toArray t (0,0))
 below:Below w.heap.size w W
 size:w.heap.size+bs.length<=W.heap.size
section
variable {w W W':World} {bs:List (List Value × TypeId)}
theorem BXT.low(h:BXT w bs W){B:Nat}(b:Below B W W')(d:w.heap.size+bs.length<=B)(c:W.heap.size<=W'.heap.size):BXT w bs W':=
 ⟨fun i cs t hi=>(b.block _ (by have:=(List.getElem?_eq_some_iff.1 hi).1;omega)).trans (h.box i cs t hi),h.below.trans (b.mono U0),Nat.le_trans h.size c⟩
theorem BXT.grow(h:BXT w bs W)(b:Below W.heap.size W W'):BXT w bs W':=h.low b h.size b.size
theorem BXT.cell(h:BXT w bs W){i k:Nat}{cs:List Value}{t:TypeId}{v:Value}(b:bs[i]?=some (cs,t))(c:cs[k]?=some v):W.cell? (zA (w.heap.size+i) k)=some v:=by rw[cell_of_row W _ k _ _ _ (h.box i cs t b)];simpa using c
theorem BXT.range(h:BXT w bs W){i:Nat}{cs:List Value}{t:TypeId}(b:bs[i]?=some (cs,t)):W.rangeAt (w.heap.size+i) 0 cs:=range_of_row (h.box i cs t b)
theorem BXT.nil(w:World):BXT w [] w:=⟨fun i cs t hi=>by simp at hi,Below.refl _ _,U2⟩
theorem BXT.push(h:BXT w bs W)(f:W.heap.size=w.heap.size+bs.length)(cs:List Value)(t:TypeId):BXT w (bs++[(cs,t)]) (W.alloc (.cells cs.toArray t)):=by
 refine⟨fun i cs' t' hi=>?_,h.below.alloc U0 _,so⟩;by_cases c:i<bs.length
 . rw[List.getElem?_append_left c] at hi;exact(heap_alloc_old _ _ U0).trans (h.box i cs' t' hi)
 . (have b:i=bs.length:=by have:=(List.getElem?_eq_some_iff.1 hi).1;simp at this;omega);subst b;(have d:(cs,t)=(cs',t'):=by simpa using hi);injection d with e1 e2;subst e1 e2;exact alloc_at f _
theorem BXT.set(h:BXT w bs W)(i:Nat){c0:List Value}{t:TypeId}(d:bs[i]?=some (c0,t))(c:List Value):BXT w (bs.set i (c,t)) (W.setRow (w.heap.size+i) c.toArray):=by
 have b:=(List.getElem?_eq_some_iff.1 d).1;refine⟨fun j cs t2 hj=>?_,qaR h.below U0 _,by simpa using h.size⟩;by_cases e:j=i
 . subst e;rw[List.getElem?_set_self b] at hj;injection hj with hj;injection hj with e1 e2;rw[<- e1,<- e2];exact setRow_same _ _ _ _ _ (h.box j c0 t d)
 . rw[List.getElem?_set_ne (fun e2=>e e2.symm)] at hj;rw[setRow_other _ _ _ _ U0];exact h.box j cs t2 hj
end
def PairPost(w:World)(p m:Int)(mod:List Int)(n:Nat)(ra rb:List (List Nat))(A B:Option Addr)(ca cb:Nat)(e:Ending)(w':World):Prop :=
 (∃(g1 gb : Nat)(V1 VA : Option Addr)(k1 ck : Nat),e = .returned (.tuple #[.agg #[zP g1,Y (n : Int),zL A ra.length ca,zL V1 ra.length k1],.agg #[zP gb,Y (n : Int),zL B rb.length cb,zL VA rb.length ck],Y 0])/\
   GFUp w' w.heap.size gb p.toNat m.toNat (lOf p m mod) (logL (lOf p m mod) (p.toNat^m.toNat))/\IntsUp w' w.heap.size VA (nz (pivC p m mod n rb)))/\Below w.heap.size w w'
theorem pair_c(p m:Int)(mod:List Int)(O:Option Addr)(Q n:Nat)(N M:List (List Nat))(A B:Option Addr)(ca cb:Nat)(w:World)(T:IntsAt w w.heap.size O mod)(U:RowsAt w w.heap.size A (nzs N))(V:RowsAt w w.heap.size B (nzs M))(R:codeZ p m mod (n:Int) (nzs N)=0)(S:codeZ p m mod (n:Int) (nzs M)=0):
 zC 181 #[Ch p m O mod.length Q,Cy n A N.length ca,Cy n B M.length cb] w (PairPost w p m mod n N M A B ca cb):=by
 have D:Hid (BXT w [((Ci p m O mod.length Q),29),((De n A N.length ca),54),((De n B M.length cb),54),((Dh none),122),((Dh none),122)] (((((w.alloc (Ce p m O mod.length Q)).alloc (Cp n A N.length ca)).alloc (Cp n B M.length cb)).alloc (Ct none)).alloc (Ct none))):=
  (((((BXT.nil w).push rfl (Ci p m O mod.length Q) 29).push U2 (De n A N.length ca) 54).push U2 (De n B M.length cb) 54).push U2 (Dh none) 122).push U2 (Dh none) 122
 have x:Hid (∀W,Below w.heap.size w W->zC 97 #[Ch p m O mod.length Q,Cy n A N.length ca] W (ViewPost W p m mod n N A ca)):=fun W hW=>sopenv_c p m mod O Q n N A ca W ((T.keep hW).more hW.size) ((U.keep hW).more hW.size) R;have y:Hid (∀W,Below w.heap.size w W->zC 97 #[Ch p m O mod.length Q,Cy n B M.length cb] W (ViewPost W p m mod n M B cb)):=fun W hW=>sopenv_c p m mod O Q n M B cb W ((T.keep hW).more hW.size) ((V.keep hW).more hW.size) S;clear T U V R S;go_enter Tryz.func181,Tryz.ntmps181;go_upto_region 1 with fail;generalize ((((w.alloc (Ce p m O mod.length Q)).alloc (Cp n A N.length ca)).alloc (Cp n B M.length cb)).alloc (Ct none)).alloc (Ct none)=H at *;have c:Hid (H.rangeAt w.heap.size 0 (Ci p m O mod.length Q)):=D.out.range (i:=0) rfl;have d:Hid (H.rangeAt (w.heap.size+1) 0 (De n A N.length ca)):=D.out.range (i:=1) rfl;have s:=zH (x.out H D.out.below);clear x;go_wp2_with (first|(refine wpList_load_mid rfl 29 (.tmp 3) rfl w.heap.size 0 rfl (Ci p m O mod.length Q) _ c.out Tryz.underlying29 rfl fieldSize ?_)|(refine wpList_load_mid rfl 54 (.tmp 4) rfl (w.heap.size+1) 0 rfl (De n A N.length ca) _ d.out Tryz.underlying54 rfl matSize ?_));(with_reducible refine s.out.mono ?_);rintro e I ⟨⟨g1,V1,k1,rfl,q1,q2⟩,hb1⟩;clear q1 q2;have o:=zH (D.out.grow hb1);clear hb1 D s c d;clear H;have g:Hid (I.heap[w.heap.size+1+1+1]?=some (Ct none)):=o.out.box 3 _ _ rfl;have b:Hid (BXT w [((Ci p m O mod.length Q),29),((De n A N.length ca),54),((De n B M.length cb),54),((Cv g1 n A N.length ca V1 N.length k1),122),((Dh none),122)] (I.setRow (w.heap.size+1+1+1) (Cu g1 n A N.length ca V1 N.length k1))):=o.out.set 3 rfl (Cv g1 n A N.length ca V1 N.length k1);go_upto_region 3 with(refine wpList_store_row rfl 122 (.tmp 6) (.tmp 13) rfl I (w.heap.size+1+1+1) 122 (Dd none) (Cu g1 n A N.length ca V1 N.length k1) rfl rfl g.out viewSize rfl sc ?_);clear g o;generalize I.setRow (w.heap.size+1+1+1) (Cu g1 n A N.length ca V1 N.length k1)=E at *;have c:Hid (E.rangeAt w.heap.size 0 (Ci p m O mod.length Q)):=b.out.range (i:=0) rfl;have d:Hid (E.rangeAt (w.heap.size+1+1) 0 (De n B M.length cb)):=b.out.range (i:=2) rfl;have t:=zH (y.out E b.out.below);clear y;go_wp2_with (first|(refine wpList_load_mid rfl 29 (.tmp 3) rfl w.heap.size 0 rfl (Ci p m O mod.length Q) _ c.out Tryz.underlying29 rfl fieldSize ?_)|(refine wpList_load_mid rfl 54 (.tmp 5) rfl (w.heap.size+1+1) 0 rfl (De n B M.length cb) _ d.out Tryz.underlying54 rfl matSize ?_));(with_reducible refine t.out.mono ?_);rintro e l ⟨⟨gb,VA,ck,rfl,hgf,hpv⟩,hb3⟩;have q:=zH (b.out.grow hb3);have r:=b.out.size;simp only[List.length_cons,List.length_nil] at r;have j:=zH r;have u:=zH hgf;have z:=zH hpv;clear hb3 b t c d hgf hpv r;have h:Hid (l.heap[w.heap.size+1+1+1+1]?=some (Ct none)):=q.out.box 4 _ _ rfl;have f:Hid (BXT w [((Ci p m O mod.length Q),29),((De n A N.length ca),54),((De n B M.length cb),54),((Cv g1 n A N.length ca V1 N.length k1),122),((Cv gb n B M.length cb VA M.length ck),122)] (l.setRow (w.heap.size+1+1+1+1) (Cu gb n B M.length cb VA M.length ck))):=q.out.set 4 rfl (Cv gb n B M.length cb VA M.length ck);have v:Hid (GFUp (l.setRow (w.heap.size+1+1+1+1) (Cu gb n B M.length cb VA M.length ck)) E.heap.size gb p.toNat m.toNat (lOf p m mod) (logL (lOf p m mod) (p.toNat^m.toNat))):=u.out.of_blocks U2 fun k hk _=>setRow_other l _ k _ (by have:=j.out;omega);have C:Hid (IntsUp (l.setRow (w.heap.size+1+1+1+1) (Cu gb n B M.length cb VA M.length ck)) E.heap.size VA (nz (pivC p m mod n M))):=z.out.of_blocks U2 fun k hk _=>setRow_other l _ k _ (by have:=j.out;omega);go_upto_region 5 with(refine wpList_store_row rfl 122 (.tmp 7) (.tmp 21) rfl l (w.heap.size+1+1+1+1) 122 (Dd none) (Cu gb n B M.length cb VA M.length ck) rfl rfl h.out viewSize rfl sc ?_);clear h q u z;generalize l.setRow (w.heap.size+1+1+1+1) (Cu gb n B M.length cb VA M.length ck)=J at *;have K:J.cell? (zA (w.heap.size+1) 0)=some (Y (n:Int)):=f.out.cell (i:=1) rfl rfl;have L:J.cell? (zA (w.heap.size+1+1) 0)=some (Y (n:Int)):=f.out.cell (i:=2) rfl rfl;have g:Hid (J.heap[w.heap.size+1+1+1]?=some (Cx g1 n A N.length ca V1 N.length k1)):=f.out.box 3 _ _ rfl;have h:Hid (J.heap[w.heap.size+1+1+1+1]?=some (Cx gb n B M.length cb VA M.length ck)):=f.out.box 4 _ _ rfl;go_wp2_with fail;refine bodyPost_ret (results_row_23 (P:=Tryz.prog) rfl _ _ (w.heap.size+1+1+1) (w.heap.size+1+1+1+1) 122 122 (Cu g1 n A N.length ca V1 N.length k1) (Cu gb n B M.length cb VA M.length ck) (0,0) (0,0) _ _ rfl rfl rfl g.out h.out Tryz.underlying122 rfl viewSize viewSize) rfl ?_;exact⟨⟨g1,gb,V1,VA,k1,ck,rfl,v.out.lower (by have:=j.out;omega),C.out.lower (by have:=j.out;omega)⟩,f.out.below⟩
def InsPost(w:World)(q n:Nat)(O:Ops)(ra rb:List (List Nat))(e:Ending)(w':World):Prop:=
 (∃b:Bool,e=.returned (.tuple #[.bool b,Y 0])/\(b=true->∀r∈ra,∀h:Al.Fld q O,Al.InC h n rb (Al.wd h r)))/\Below w.heap.size w w'
theorem sinside_c(p m:Int)(mod:List Int)(Am:Option Addr)(cm n:Nat)(ra rb:List (List Nat))(A B:Option Addr)(ca cb:Nat)(w:World)(hM:IntsAt w w.heap.size Am mod)(hA:RowsAt w w.heap.size A (nzs ra))(hB:RowsAt w w.heap.size B (nzs rb))(aa:codeZ p m mod (n:Int) (nzs ra)=0)(ab:codeZ p m mod (n:Int) (nzs rb)=0):
 zC 131 #[Ch p m Am mod.length cm,Cy n A ra.length ca,Cy n B rb.length cb] w (InsPost w (p.toNat^m.toNat) n (opsT p.toNat m.toNat (lOf p m mod)) ra rb):=by
 have q:Hid (BXT w [((Ci p m Am mod.length cm),29),((De n A ra.length ca),54),((De n B rb.length cb),54)] (((w.alloc (Ce p m Am mod.length cm)).alloc (Cp n A ra.length ca)).alloc (Cp n B rb.length cb))):=
  (((BXT.nil w).push rfl (Ci p m Am mod.length cm) 29).push U2 (De n A ra.length ca) 54).push U2 (De n B rb.length cb) 54
 obtain⟨V,X,Z,R,a5,a6,_⟩:=qcI aa;obtain⟨_,_,_,b4,b5,_,_,_,S,I⟩:=qcI ab;have y:Hid (∀W,Below w.heap.size w W->zC 181 #[Ch p m Am mod.length cm,Cy n A ra.length ca,Cy n B rb.length cb] W (PairPost W p m mod n ra rb A B ca cb)):=fun W hW=>pair_c p m mod Am cm n ra rb A B ca cb W ((hM.keep hW).more hW.size) ((hA.keep hW).more hW.size) ((hB.keep hW).more hW.size) aa ab
 have Q:Hid (∀(gb b1:Nat)(VA:Option Addr)(ck:Nat)(W:World),Below w.heap.size w W->GFAt W W.heap.size gb p.toNat m.toNat (lOf p m mod) (logL (lOf p m mod) (p.toNat^m.toNat))->IntsAt W W.heap.size VA (nz (pivC p m mod n rb))->W.rangeAt b1 0 (Cv gb n B rb.length cb VA rb.length ck)->b1<W.heap.size->
  zC 102 #[zL A ra.length ca,.func (.func 182) #[] #[zP b1]] W fun e w'=>(∃b:Bool,e=.returned (.bool b)/\(b=false->∀i,i<(nzs ra).length->∀h:Al.Fld (p.toNat^m.toNat) (opsT p.toNat m.toNat (lOf p m mod)),Al.InC h n rb (Al.wd h (ra.getD i []))))/\Below W.heap.size W w'):=fun gb b1 VA ck W hW hG hV hr hb=>by
  have:=containsin_c (nzs ra) (fun i=>∀h:Al.Fld (p.toNat^m.toNat) (opsT p.toNat m.toNat (lOf p m mod)),Al.InC h n rb (Al.wd h (ra.getD i []))) A ca b1 W ((hA.keep hW).more hW.size) (by rw[nzs_len];omega) (fun k Ao co W2 hk hW2 hir=>by
   rw[nzs_len] at hk
   rw[nzs_getD] at hir ⊢
   have J:=R.row hk
   rw[qaA,J.1]
   have o:=hW.trans (hW2.mono hW.size)
   exact inside1_c gb p.toNat m.toNat (mdOf m mod) (lOf p m mod) n rb B cb (pivC p m mod n rb) VA ck (ra.getD k []) Ao co b1 W2 (field_ft V) ((hG.keep hW2).more hW2.size) ((hB.keep o).more o.size) b4 X Z ((hV.keep hW2).more hW2.size) S I U0 hir J (range_keep_v hr (hW2.block b1 hb)))
  rw[nzs_len] at this
  rw[nzs_len]
  exact this
 clear hM hA hB aa ab R b4 S I;go_enter Tryz.func131,Tryz.ntmps131;go_upto_region 1 with fail;generalize ((w.alloc (Ce p m Am mod.length cm)).alloc (Cp n A ra.length ca)).alloc (Cp n B rb.length cb)=L at *;have C:Hid (L.rangeAt w.heap.size 0 (Ci p m Am mod.length cm)):=q.out.range (i:=0) rfl;have D:Hid (L.rangeAt (w.heap.size+1) 0 (De n A ra.length ca)):=q.out.range (i:=1) rfl;have E:Hid (L.rangeAt (w.heap.size+1+1) 0 (De n B rb.length cb)):=q.out.range (i:=2) rfl;have s:=zH (y.out L q.out.below);clear y;go_wp2_with (first|(refine wpList_load_mid rfl 29 (.tmp 3) rfl w.heap.size 0 rfl (Ci p m Am mod.length cm) _ C.out Tryz.underlying29 rfl fieldSize ?_)|(refine wpList_load_mid rfl 54 (.tmp 4) rfl (w.heap.size+1) 0 rfl (De n A ra.length ca) _ D.out Tryz.underlying54 rfl matSize ?_)|(refine wpList_load_mid rfl 54 (.tmp 5) rfl (w.heap.size+1+1) 0 rfl (De n B rb.length cb) _ E.out Tryz.underlying54 rfl matSize ?_));(with_reducible refine s.out.mono ?_);rintro e c ⟨⟨g1,gb,V1,VA,k1,ck,rfl,hgf,hpv⟩,hb1⟩;have H:=zH (q.out.grow hb1)
 have K:Hid (BXT c [((Dh none),122),((Dh none),122)] ((c.alloc (Ct none)).alloc (Ct none))):=
  ((BXT.nil c).push rfl (Dh none) 122).push U2 (Dh none) 122
 have u:=zH hgf.at_;have z:=zH (qcD hpv);clear hb1 q s C D E hgf hpv;obtain⟨P,l⟩:∃P,P=(c.alloc (Ct none)).alloc (Ct none):=⟨_,rfl⟩;rw[<- l] at K;have v:Hid (((c.alloc (Ct none)).alloc (Ct none)).heap[c.heap.size]?=some (Ct none)):=by show _=_;rw[<- l];exact K.out.box 0 _ _ rfl
 have j:Hid (BXT c [((Cv g1 n A ra.length ca V1 ra.length k1),122),((Dh none),122)] (P.setRow c.heap.size (Cu g1 n A ra.length ca V1 ra.length k1))):=K.out.set 0 rfl (Cv g1 n A ra.length ca V1 ra.length k1);rw[l] at j;clear l K;have x:Hid ((((c.alloc (Ct none)).alloc (Ct none)).setRow c.heap.size (Cu g1 n A ra.length ca V1 ra.length k1)).heap[c.heap.size+1]?=some (Ct none)):=j.out.box 1 _ _ rfl;have f:Hid (BXT c [((Cv g1 n A ra.length ca V1 ra.length k1),122),((Cv gb n B rb.length cb VA rb.length ck),122)] ((((c.alloc (Ct none)).alloc (Ct none)).setRow c.heap.size (Cu g1 n A ra.length ca V1 ra.length k1)).setRow (c.heap.size+1) (Cu gb n B rb.length cb VA rb.length ck))):=j.out.set 1 rfl (Cv gb n B rb.length cb VA rb.length ck);clear j;go_upto_region 2 with(first|(refine wpList_store_row rfl 122 (.tmp 8) (.tmp 16) rfl _ c.heap.size 122 (Dd none) (Cu g1 n A ra.length ca V1 ra.length k1) rfl rfl v.out viewSize rfl sc ?_)|(refine wpList_store_row rfl 122 (.tmp 9) (.tmp 17) rfl _ (c.heap.size+1) 122 (Dd none) (Cu gb n B rb.length cb VA rb.length ck) rfl rfl x.out viewSize rfl sc ?_));generalize ((((c.alloc (Ct none)).alloc (Ct none)).setRow c.heap.size (Cu g1 n A ra.length ca V1 ra.length k1)).setRow (c.heap.size+1) (Cu gb n B rb.length cb VA rb.length ck))=U at *;have d:=zH (H.out.grow f.out.below);have y1:U.cell? (zA (w.heap.size+1) 1)=some (zL A ra.length ca):=d.out.cell (i:=1) rfl rfl;have O:=f.out.size;simp only[List.length_cons,List.length_nil] at O;have g:=f.out.below;have t:=zH (Q.out gb (c.heap.size+1) VA ck U d.out.below ((u.out.keep g).more g.size) ((z.out.keep g).more g.size) (f.out.range (i:=1) rfl) U0);clear v x H Q g u z f;go_wp2_with fail;(with_reducible refine t.out.mono ?_);rintro e w4 ⟨⟨b,rfl,hbb⟩,hb4⟩;have N:=zH hbb;have M:=zH (d.out.below.trans (hb4.mono d.out.below.size));clear hbb hb4 t y1 d;go_wp2_with fail;go_ret2;refine⟨⟨_,rfl,fun hb r hr=>?_⟩,M.out⟩;obtain⟨i,T,rfl⟩:=List.mem_iff_getElem.1 hr;have:=N.out (by simpa using hb) i (by rw[nzs_len];exact T);rwa [show ra.getD i []=ra[i] by simp[List.getD,T]] at this
theorem two_c(p m:Int)(mod:List Int)(n:Nat)(P Q:Option Addr)(R S:Nat)(T U:List (List Int))(A B:Option Addr)(ca cb:Nat)(w:World)(V:CD.At ⟨p,m,mod,P,R,n,T,A,ca⟩ w)(X:CD.At ⟨p,m,mod,Q,S,n,U,B,cb⟩ w):
 zC 130 #[Ck p m P mod.length R n A T.length ca,Ck p m Q mod.length S n B U.length cb] w fun e w'=>e=.returned (Y 0)/\Below w.heap.size w w':=by
 have s:Hid (BXT w [((Ca p m P mod.length R n A T.length ca),32),((Ca p m Q mod.length S n B U.length cb),32)] ((w.alloc (Cf p m P mod.length R n A T.length ca)).alloc (Cf p m Q mod.length S n B U.length cb))):=
  ((BXT.nil w).push rfl (Ca p m P mod.length R n A T.length ca) 32).push U2 (Ca p m Q mod.length S n B U.length cb) 32
 obtain⟨y,_,_,C,_⟩:=qbW V.z;obtain⟨D,_,_,b4,_⟩:=qbW X.z;dsimp only at y C D b4;have l:Hid (∀W,Below w.heap.size w W->zC 27 #[Ck p m P mod.length R n A T.length ca] W fun e w'=>e=.returned (Y 0)/\Below W.heap.size W w'):=fun W hW=>by have h:=V.keep hW;have:=codecheck_c p m mod P R (n:Int) T A ca W h.mod U0 h.gen U0;rw[h.z] at this;exact this
 have o:Hid (∀W,Below w.heap.size w W->zC 27 #[Ck p m Q mod.length S n B U.length cb] W fun e w'=>e=.returned (Y 0)/\Below W.heap.size W w'):=fun W hW=>by have h:=X.keep hW;have:=codecheck_c p m mod Q S (n:Int) U B cb W h.mod U0 h.gen U0;rw[h.z] at this;exact this
 have t:Hid (∀W,Below w.heap.size w W->zC 81 #[Ch p m P mod.length R,Ch p m Q mod.length S] W fun e w'=>e=.returned (.bool true)/\Below W.heap.size W w'):=fun W hW=>by have:=psame_c p m p m mod mod P Q R S W (V.keep hW).mod (X.keep hW).mod U0;rw[decide_eq_true ⟨rfl,rfl,rfl⟩] at this;exact this
 clear V X;go_enter Tryz.func130,Tryz.ntmps130;go_upto_region 1 with fail;generalize (w.alloc (Cf p m P mod.length R n A T.length ca)).alloc (Cf p m Q mod.length S n B U.length cb)=u at *;have q:Hid (u.rangeAt w.heap.size 0 (Ca p m P mod.length R n A T.length ca)):=s.out.range (i:=0) rfl;have j:=zH (l.out u s.out.below);go_wp2_with (refine wpList_load_mid rfl 32 (.tmp 2) rfl w.heap.size 0 rfl (Ca p m P mod.length R n A T.length ca) _ q.out Tryz.underlying32 rfl codeSz ?_);(with_reducible refine j.out.mono ?_);rintro e v ⟨rfl,hb1⟩;have c:=zH (s.out.grow hb1);clear hb1 s j q l;have r:Hid (v.rangeAt (w.heap.size+1) 0 (Ca p m Q mod.length S n B U.length cb)):=c.out.range (i:=1) rfl;have k:=zH (o.out v c.out.below);go_wp2_with (refine wpList_load_mid rfl 32 (.tmp 3) rfl (w.heap.size+1) 0 rfl (Ca p m Q mod.length S n B U.length cb) _ r.out Tryz.underlying32 rfl codeSz ?_);(with_reducible refine k.out.mono ?_);rintro e g ⟨rfl,hb2⟩;have b:=zH (c.out.grow hb2);clear hb2 c k r o;have H:g.cell? (zA w.heap.size 0)=some (Y p):=b.out.cell (i:=0) rfl rfl;have I:g.cell? (zA w.heap.size 1)=some (Y m):=b.out.cell (i:=0) rfl rfl;have J:g.cell? (zA w.heap.size 2)=some (zL P mod.length R):=b.out.cell (i:=0) rfl rfl;have K:g.cell? (zA (w.heap.size+1) 0)=some (Y p):=b.out.cell (i:=1) rfl rfl;have L:g.cell? (zA (w.heap.size+1) 1)=some (Y m):=b.out.cell (i:=1) rfl rfl;have M:g.cell? (zA (w.heap.size+1) 2)=some (zL Q mod.length S):=b.out.cell (i:=1) rfl rfl;have d:=zH (t.out g b.out.below);go_wp2_with fail;(with_reducible refine d.out.mono ?_);rintro e x ⟨rfl,hb3⟩;have f:=zH (b.out.grow hb3);clear hb3 b d H I J K L M;have N:x.cell? (zA w.heap.size 3)=some (Y (n:Int)):=f.out.cell (i:=0) rfl rfl;have O:x.cell? (zA (w.heap.size+1) 3)=some (Y (n:Int)):=f.out.cell (i:=1) rfl rfl;have E:((n:Int) != (n:Int))=false:=bne_self_eq_false _;go_wp2_with fail;go_ret;exact⟨rfl,f.out.below⟩
theorem cinside_c(p m:Int)(mod:List Int)(n:Nat)(R T:Option Addr)(S U:Nat)(P Q:List (List Int))(A B:Option Addr)(ca cb:Nat)(w:World)(V:CD.At ⟨p,m,mod,R,S,n,P,A,ca⟩ w)(X:CD.At ⟨p,m,mod,T,U,n,Q,B,cb⟩ w):
 zC 61 #[Ck p m R mod.length S n A P.length ca,Ck p m T mod.length U n B Q.length cb] w (InsPost w (p.toNat^m.toNat) n (opsT p.toNat m.toNat (lOf p m mod)) (natR P) (natR Q)):=by
 have u:Hid (BXT w [((Ca p m R mod.length S n A P.length ca),32),((Ca p m T mod.length U n B Q.length cb),32)] ((w.alloc (Cf p m R mod.length S n A P.length ca)).alloc (Cf p m T mod.length U n B Q.length cb))):=
  ((BXT.nil w).push rfl (Ca p m R mod.length S n A P.length ca) 32).push U2 (Ca p m T mod.length U n B Q.length cb) 32
 have t:Hid (∀W,Below w.heap.size w W->zC 130 #[Ck p m R mod.length S n A P.length ca,Ck p m T mod.length U n B Q.length cb] W fun e w'=>e=.returned (Y 0)/\Below W.heap.size W w'):=fun W hW=>two_c p m mod n R T S U P Q A B ca cb W (V.keep hW) (X.keep hW);have q:Hid (∀W,Below w.heap.size w W->zC 131 #[Ch p m R mod.length S,Cy n A P.length ca,Cy n B Q.length cb] W (InsPost W (p.toNat^m.toNat) n (opsT p.toNat m.toNat (lOf p m mod)) (natR P) (natR Q))):=fun W hW=>by obtain⟨_,_,_,_,_,_,E⟩:=qbW V.z;obtain⟨_,_,_,_,_,_,H⟩:=qbW X.z;dsimp only at E H;have I:=(V.keep hW);have J:=(X.keep hW);have:=sinside_c p m mod R S n (natR P) (natR Q) A B ca cb W I.mod (by rw[E];exact I.gen) (by rw[H];exact J.gen) (by rw[E];exact I.z) (by rw[H];exact J.z);rw[natR_len,natR_len] at this;exact this
 have l:Hid (∀W,zC 49 #[Ck p m R mod.length S n A P.length ca] W fun e w'=>e=.returned (Cy n A P.length ca)/\Below W.heap.size W w'):=fun W=>gen_c p m R mod.length S (n:Int) A P.length ca W;have o:Hid (∀W,zC 49 #[Ck p m T mod.length U n B Q.length cb] W fun e w'=>e=.returned (Cy n B Q.length cb)/\Below W.heap.size W w'):=fun W=>gen_c p m T mod.length U (n:Int) B Q.length cb W;clear V X;go_enter Tryz.func61,Tryz.ntmps61;go_upto_region 1 with fail;generalize (w.alloc (Cf p m R mod.length S n A P.length ca)).alloc (Cf p m T mod.length U n B Q.length cb)=D at *;have r:Hid (D.rangeAt w.heap.size 0 (Ca p m R mod.length S n A P.length ca)):=u.out.range (i:=0) rfl;have s:Hid (D.rangeAt (w.heap.size+1) 0 (Ca p m T mod.length U n B Q.length cb)):=u.out.range (i:=1) rfl;have k:=zH (t.out D u.out.below);go_wp2_with (first|(refine wpList_load_mid rfl 32 (.tmp 2) rfl w.heap.size 0 rfl (Ca p m R mod.length S n A P.length ca) _ r.out Tryz.underlying32 rfl codeSz ?_)|(refine wpList_load_mid rfl 32 (.tmp 3) rfl (w.heap.size+1) 0 rfl (Ca p m T mod.length U n B Q.length cb) _ s.out Tryz.underlying32 rfl codeSz ?_));(with_reducible refine k.out.mono ?_);rintro e K ⟨rfl,hb1⟩;have C:=zH (u.out.grow hb1);clear hb1 u k r s t;have f:Hid (BXT w [((Ca p m R mod.length S n A P.length ca),32),((Ca p m T mod.length U n B Q.length cb),32)] K.drew):=C.out.grow (Below.refl _ _).drew;have y:Hid (∀W,BXT w [((Ca p m R mod.length S n A P.length ca),32),((Ca p m T mod.length U n B Q.length cb),32)] W->W.rangeAt w.heap.size 0 (Ci p m R mod.length S)):=fun W hW=>qbO (hW.range (i:=0) rfl) 0 _ (fun j hj=>by rcases j with _|_|_|j<;>first|rfl|(simp at hj;omega));go_upto_region 4 with fail;refine qaS 10 10 (BXT w [((Ca p m R mod.length S n A P.length ca),32),((Ca p m T mod.length U n B Q.length cb),32)]) [(1,0),(0,1),(0,2),(0,4),(2,3),(2,5),(2,6),(1,7),(1,8),(1,9)] default U1 U1 (fun _ _ d _ _ h=>by cases d<;>exact h) f.out ?_;generalize K.drew=L at *;simp only[List.map_cons,List.map_nil,List.getD_cons_zero,List.getD_cons_succ];apply qaM rfl
 . intro W;go_simp;rfl
 go_simp;refine qaT rfl 29 (.tmp 13) rfl w.heap.size 0 rfl (Ci p m R mod.length S) _ y.out Tryz.underlying29 rfl fieldSize ?_;go_simp;refine qaT rfl 32 (.tmp 2) rfl w.heap.size 0 rfl (Ca p m R mod.length S n A P.length ca) _ (fun W hW=>hW.range (i:=0) rfl) Tryz.underlying32 rfl codeSz ?_;go_simp;refine qaT rfl 32 (.tmp 3) rfl (w.heap.size+1) 0 rfl (Ca p m T mod.length U n B Q.length cb) _ (fun W hW=>hW.range (i:=1) rfl) Tryz.underlying32 rfl codeSz ?_;go_simp;apply qbE rfl
 . go_simp;exact⟨rfl,rfl⟩
 refine(l.out L).mono ?_;rintro e M ⟨rfl,hb2⟩;have g:=zH (f.out.grow hb2);refine⟨_,rfl,g.out,?_⟩;go_simp;clear hb2 f;apply qbE rfl
 . go_simp;exact⟨rfl,rfl⟩
 refine(o.out M).mono ?_;rintro e N ⟨rfl,hb3⟩;have c:=zH (g.out.grow hb3);refine⟨_,rfl,c.out,?_⟩;go_simp;clear hb3 g;apply qbE rfl
 . go_simp;exact⟨rfl,rfl⟩
 refine(q.out N c.out.below).mono ?_;rintro e O ⟨⟨b,rfl,hbb⟩,hb4⟩;have v:=zH (c.out.grow hb4);have x:=zH hbb;refine⟨_,rfl,v.out,?_⟩;go_simp;clear hb4 hbb c q l o
 iterate 3
  apply qaM rfl
  . intro W
    go_simp
    rfl
  go_simp
 refine qbH ?_;show wpList _ _ _ _ _ _;go_simp;go_wp2_with fail;go_ret2;exact⟨⟨b,rfl,x.out⟩,v.out.below⟩
def RelPv(w1:World)(n:Nat)(piv:List Nat)(v5 v6 v7:Value)(wx:World):Prop:=
 ∃(b:Nat)(VA:Option Addr)(ck:Nat),v5=zP b/\v6=zL VA n ck/\v7=Y 0/\IntsUp wx w1.heap.size VA (nz piv)/\Below w1.heap.size w1 wx
def PivPost(w:World)(n:Nat)(piv:List Nat)(e:Ending)(w':World):Prop:=
 (∃(VA:Option Addr)(ck:Nat),e=.returned (.tuple #[zL VA n ck,Y 0])/\IntsUp w' w.heap.size VA (nz piv))/\Below w.heap.size w w'
theorem cpivots_c(p m:Int)(mod:List Int)(Am:Option Addr)(cm n:Nat)(ac:List (List Int))(A:Option Addr)(c:Nat)(w:World)(ha:CD.At ⟨p,m,mod,Am,cm,n,ac,A,c⟩ w):
 zC 73 #[Ck p m Am mod.length cm n A ac.length c] w (PivPost w ac.length (pivC p m mod n (natR ac))):=by
 have D:Hid (SBoxC w (Ca p m Am mod.length cm n A ac.length c) (w.alloc (Cf p m Am mod.length cm n A ac.length c))):=
  ⟨heap_alloc_new _ _,(Below.refl _ _).alloc (Nat.le_refl _) _,U2⟩
 obtain⟨U,V,a3,X,Z,a6,E⟩:=qbW ha.z;dsimp only at U X Z a6 E;have s:Hid (∀W,Below w.heap.size w W->zC 27 #[Ck p m Am mod.length cm n A ac.length c] W fun e w'=>e=.returned (Y 0)/\Below W.heap.size W w'):=fun W hW=>by have h:=ha.keep hW;have:=codecheck_c p m mod Am cm (n:Int) ac A c W h.mod U0 h.gen U0;rw[h.z] at this;exact this
 have I:Hid (∀W,Below w.heap.size w W->zC 141 #[Ch p m Am mod.length cm,Cy n A ac.length c] W fun e w'=>(∃(R:Nat)(i:Option Addr)(l:Nat),e=.returned (.tuple #[.agg #[Y (n:Int),zS R ac.length ac.length],zL i ac.length l,Y 0])/\IntsUp w' W.heap.size i (nz (pivC p m mod n (natR ac))))/\Below W.heap.size W w'):=fun W hW=>by have h:=ha.keep hW;obtain⟨_,_,_,_,_,_,c7,c8,_⟩:=qcI (p:=p) (m:=m) (mod:=mod) (n:=n) (rows:=natR ac) (by rw[E];exact ha.z);have:=canonical2_c p m mod Am cm n (natR ac) A c W h.mod U0 (by rw[E];exact h.gen) V c7;rw[c8,natR_len] at this;refine this.mono ?_;rintro e w' ⟨⟨R,i,l,he,_,Q⟩,P⟩;exact⟨⟨R,i,l,he,Q.lower U0⟩,P⟩
 clear ha U V a3 X Z a6 E;generalize pivC p m mod n (natR ac)=C at *;go_enter Tryz.func73,Tryz.ntmps73;go_upto_region 1 with fail;generalize w.alloc (Cf p m Am mod.length cm n A ac.length c)=W0 at *;have u:=zH D.out.range;have r:=zH (s.out W0 D.out.2.1);go_wp2_with (refine wpList_load_mid rfl 32 (.tmp 1) rfl w.heap.size 0 rfl (Ca p m Am mod.length cm n A ac.length c) _ u.out Tryz.underlying32 rfl codeSz ?_);(with_reducible refine r.out.mono ?_);rintro e g ⟨rfl,hb1⟩;have f:=zH (D.out.grow hb1);clear hb1 D r u s;have J:Hid (∀ W,LSkA g W->W.rangeAt w.heap.size 0 (Ca p m Am mod.length cm n A ac.length c)):=fun W hW=>(f.out.grow hW).range;have K:Hid (∀ W,LSkA g W->W.rangeAt w.heap.size 0 (Ci p m Am mod.length cm)):=fun W hW=>(f.out.grow hW).range3;have M:Hid (LSkA g g.drew):=(Below.refl _ _).drew;go_upto_region 4 with fail;go_cut [5,6,7] (fun v5 v6 v7 wx=>RelPv g ac.length C v5 v6 v7 wx);case first =>
  refine wp_region_mixx 12 10 9 (LSkA g) [(1,0),(0,1),(0,2),(2,3),(2,4),(1,5),(1,6),(1,7),(1,8)] [(3,10),(1,11)] default _ (Dj) U1 U1 (fun _ _ d _ _ h=>by cases d<;>exact h) rfl rfl ?_ (fun W hW=>Below.alloc hW (Below.size hW) _) M.out ?_
  . intro a w;unfold ptrTo;go_simp
  simp only[List.map_cons,List.map_nil,List.getD_cons_zero,List.getD_cons_succ];apply x_free rfl
  . intro W;go_simp;rfl
  go_simp;refine x_load_mid rfl 29 (.tmp 14) rfl w.heap.size 0 rfl (Ci p m Am mod.length cm) _ K.out Tryz.underlying29 rfl fieldSize ?_;go_simp;refine x_load_mid rfl 32 (.tmp 1) rfl w.heap.size 0 rfl (Ca p m Am mod.length cm n A ac.length c) _ J.out Tryz.underlying32 rfl codeSz ?_;go_simp;apply x_call rfl
  . intro W;go_simp;exact⟨rfl,rfl⟩
  intro W1 aa v;with_reducible refine(gen_c p m Am mod.length cm n A ac.length c W1).mono ?_
  rintro e w2 ⟨rfl,hb2⟩;refine⟨_,rfl,Below.trans v (hb2.mono (Below.size v)),hb2,?_⟩;go_simp;apply x_call rfl
  . intro W;go_simp;exact⟨rfl,rfl⟩
  intro N ab j;have t:=zH (I.out N (f.out.2.1.trans (Below.mono j f.out.2.1.size)));with_reducible refine t.out.mono ?_
  rintro e w4 ⟨⟨R,i,l,rfl,hr4⟩,hb4⟩;refine⟨_,rfl,Below.trans j (hb4.mono (Below.size j)),hb4,?_⟩;go_simp
  iterate 4
   apply x_free rfl
   . intro W
     go_simp
     rfl
   go_simp
  refine x_nil ?_;intro T b o x B hF y;have S:g.heap.size<=N.heap.size:=Below.size j;have O:¬(N.heap.size<=b/\b<w4.heap.size):=fun h=>hF (.inr h)
  have L:Hid (IntsUp (T.setRow b (Dc n R ac.length ac.length)) g.heap.size i (nz C)):=
   (hr4.of_blocks (by simpa using o.size) (fun k hk1 hk2=>by rw[setRow_other _ _ _ _ U0,o.block k hk2])).lower S
  have H:Hid (Below g.heap.size g (T.setRow b (Dc n R ac.length ac.length))):=qaR x B _;unfold ptrTo;refine qcA rfl 54 (.tmp 5) (.tmp 19) rfl b 54 (Dk) (Dc n R ac.length ac.length) rfl rfl y matSize rfl sc ?_;go_simp;apply qaM rfl
  . intro W;go_simp;rfl
  go_simp;refine qbH ?_;show wpList _ _ _ _ _ _;clear hr4 hb4 o x B hF y O t;go_wp2_with fail;go_meet;exact⟨b,i,l,rfl,rfl,rfl,L.out,H.out⟩
 case rest=>obtain⟨b,i,l,rfl,rfl,rfl,Q,P⟩:=hcut;have q:=f.out.2.1;go_wp2_with fail;go_ret2;exact⟨⟨i,l,rfl,Q.lower q.size⟩,q.trans (P.mono q.size)⟩
def RelIsf(w:World)(n:Nat)(v8:Value)(wr:World):Prop:=∃k:Nat,k<=n/\v8=Y k/\wr=w
theorem list1_c(x:Int)(f p m B g:Nat)(l i:List Nat)(w:World)(h:GFAt w B f p m l i)(j:w.cell? (zA g 0)=some (zP f)):
 zC 195 #[Y x,zP g] w fun e w'=>(∃b:Bool,e=.returned (.bool b))/\w=w':=by have c:=zH (is_c x f p m B l i w h);clear h;go_enter Tryz.func195,Tryz.ntmps195;go_wp2_with fail;(with_reducible refine c.out.mono ?_);rintro e w' ⟨rfl,rfl⟩;generalize (decide (0<=x) && decide (x<((p^m:Nat):Int)))=d at *;clear c;go_wp2_with fail;go_ret;exact⟨⟨_,rfl⟩,rfl⟩
theorem containsis_c(zs:List Int)(A:Option Addr)(c r:Nat)(w:World)(s:IntsAt w w.heap.size A zs)(u:zs.length<=1000)(t:∀ x:Int,zC 195 #[Y x,zP r] w fun e w'=>(∃ b:Bool,e=.returned (.bool b))/\w=w'):
 zC 55 #[zL A zs.length c,.func (.func 195) #[] #[zP r]] w fun e w'=>(∃b:Bool,e=.returned (.bool b))/\w=w':=by
 have f:Hid (zC 99 #[zL A zs.length c,.func (.func 195) #[] #[zP r]] w fun e w'=>(∃ z:Int,e=.returned (Y z))/\w=w'):=by
  show Calls _ _ _ _ _;have g:=zH s;have i:=zH t;clear s t;go_enter Tryz.func99,Tryz.ntmps99;go_wp2_with fail;go_loopw [8] (fun v8 wr=>RelIsf w zs.length v8 wr) (fun v8 _=>zs.length-(intOf v8).toNat);case atStart=>exact⟨0,U0,rfl,rfl⟩
  case round =>
   obtain⟨k,n,rfl,rfl⟩:=hrel;by_cases d:k<zs.length
   . obtain ⟨b,o,rfl,l,m⟩ := g.out.at_ (k := k) d;have p:(0:Int)<=(k:Int):=U0;have q:(k:Int)<(zs.length:Int):=U0;have j:IntKind.i64.wrap ((k:Int)+1)=(k:Int)+1:=IntWalk.i64_in _ U0;generalize zs.getD k 0=x at *;have h:=zH (i.out x);go_wp2_with fail;refine h.out.mono ?_;rintro e w' ⟨⟨b',rfl⟩,rfl⟩;cases b'
     . go_wp2_with fail;go_roundw;case rel=>exact⟨k+1,U0,gn,rfl⟩
       case measure=>exact mE
     . go_wp2_with fail;go_ret;exact⟨⟨_,rfl⟩,rfl⟩
   . (obtain rfl:k=zs.length:=by omega);go_wp2_with fail;go_ret;exact⟨⟨_,rfl⟩,rfl⟩
 clear s t;go_enter Tryz.func55,Tryz.ntmps55;go_wp2_with fail;refine f.out.mono ?_;rintro e w' ⟨⟨z,rfl⟩,rfl⟩;clear f;go_wp2_with fail;go_ret;exact⟨⟨_,rfl⟩,rfl⟩
theorem list_c(p m:Int)(mod:List Int)(D:Option Addr)(E:Nat)(zs:List Int)(A:Option Addr)(c n:Nat)(w:World)(J:IntsAt w w.heap.size D mod)(H:fieldOK p m mod=true)(I:IntsAt w w.heap.size A zs)(K:zs.length<=1000):
 zC 145 #[Ch p m D mod.length E,zL A zs.length c,Y (n:Int)] w fun e w'=>(∃z:Int,e=.returned (Y z)/\(z=0->zs.length=n))/\Below w.heap.size w w':=by
 have d:Hid (Below w.heap.size w (w.alloc (Ce p m D mod.length E))):=(Below.refl _ _).alloc (Nat.le_refl _) _;have r:Hid ((w.alloc (Ce p m D mod.length E)).rangeAt w.heap.size 0 (Ci p m D mod.length E)):=range_of_row (heap_alloc_new _ _);have y:=zH (fnew_any p m mod D E (w.alloc (Ce p m D mod.length E)) ((J.keep d.out).more d.out.size) H);have v:=zH I;clear J I H;go_enter Tryz.func145,Tryz.ntmps145;go_upto_region 1 with fail;generalize w.alloc (Ce p m D mod.length E)=B at *;by_cases i:zs.length=n;rotate_left
 . have t:((zs.length:Int) != (n:Int))=true:=bne_iff_ne.2 U0;clear i;go_wp2_with fail;go_ret;exact⟨⟨_,rfl,fun h=>by cases h⟩,d.out⟩
 have t:((zs.length:Int) != (n:Int))=false:=by rw[i];exact bne_self_eq_false _
 have s:=zH i;clear i;go_wp2_with (refine wpList_load_mid rfl 29 (.tmp 3) rfl w.heap.size 0 rfl (Ci p m D mod.length E) _ r.out Tryz.underlying29 rfl fieldSize ?_);(with_reducible refine y.out.mono ?_);rintro e j ⟨⟨gb,rfl,_,hgf⟩,hb1⟩;have g:Below j.heap.size j (j.alloc (.cells #[zP gb] 100)):=(Below.refl _ _).alloc (Nat.le_refl _) _;have k:=d.out.trans (hb1.mono d.out.size);have f:=zH (k.trans (g.mono k.size));have q:=zH ((hgf.keep g).more g.size).gf;have l:Hid ((j.alloc (.cells #[zP gb] 100)).cell? (zA j.heap.size 0)=some (zP gb)):=cell_of_row _ _ 0 _ _ _ (heap_alloc_new _ _);clear hgf g hb1 k y r;go_upto_region 4 with fail;generalize j.alloc (.cells #[zP gb] 100)=u at *;have o:=zH (containsis_c zs A c j.heap.size u ((v.out.keep f.out).more f.out.size) K fun x=>list1_c x gb p.toNat m.toNat u.heap.size j.heap.size _ _ u q.out l.out);clear l q v;go_wp2_with fail;(with_reducible refine o.out.mono ?_);rintro e C ⟨⟨b,rfl⟩,rfl⟩;clear o;cases b
 . go_wp2_with fail;go_ret;exact⟨⟨_,rfl,fun _=>s.out⟩,f.out⟩
 . go_wp2_with fail;go_ret;exact⟨⟨_,rfl,fun h=>by cases h⟩,f.out⟩
def VecPost(w:World)(n:Nat)(u:List Nat)(e:Ending)(w':World):Prop:=
 (∃z:Int,z≠0/\e=.returned (.tuple #[zL none 0 0,Y z]))/\Below w.heap.size w w'\/(∃(g:Nat),e=.returned (.tuple #[zS g n n,Y 0])/\Row w' w.heap.size g n (nz u))/\Below w.heap.size w w'
theorem mvec_c(p m:Int)(mod:List Int)(Am:Option Addr)(cm n:Nat)(rows:List (List Nat))(A:Option Addr)(c:Nat)(x:List Nat)(Ax:Option Addr)(cx:Nat)(w:World)(hM:IntsAt w w.heap.size Am mod)(hA:RowsAt w w.heap.size A (nzs rows))(hz:codeZ p m mod (n:Int) (nzs rows)=0)(hX:IntsAt w w.heap.size Ax (nz x))(hx:∀ y∈x,y<p.toNat ^ m.toNat)(aa:x.length=rows.length):
 zC 146 #[Ch p m Am mod.length cm,zL Ax rows.length cx,Cy n A rows.length c] w (VecPost w n (vecM (opsT p.toNat m.toNat (lOf p m mod)) x rows n rows.length)):=by
 obtain⟨K,Z,a3,Q,a5,a6,R,_⟩:=qcI hz;obtain⟨_,c2,_⟩:=errC_grid R
 have C:Hid (BXT w [((Ci p m Am mod.length cm),29),((De n A rows.length c),54)] ((w.alloc (Ce p m Am mod.length cm)).alloc (Cp n A rows.length c))):=
  ((BXT.nil w).push rfl (Ci p m Am mod.length cm) 29).push U2 (De n A rows.length c) 54
 have O:=zH hM;have M:=zH hA;have I:=zH hX;have N:Hid (∀(f:Nat)(W:World),Below w.heap.size w W->GFAt W W.heap.size f p.toNat m.toNat (lOf p m mod) (logL (lOf p m mod) (p.toNat^m.toNat))->zC 197 #[zP f,zL Ax rows.length cx] W fun e w'=>(∃z:Int,e=.returned (Y z))/\W=w'):=fun f W hW hG=>by have:=entries_c f p.toNat m.toNat W.heap.size _ _ (nz x) Ax cx W hG ((hX.keep hW).more hW.size) (by rw[qaA];omega);rw[qaA,aa] at this;exact this.mono fun e w' ⟨h1,h2⟩=>⟨⟨_,h1⟩,h2⟩
 have P:Hid (∀(f:Nat)(W:World),Below w.heap.size w W->GFAt W W.heap.size f p.toNat m.toNat (lOf p m mod) (logL (lOf p m mod) (p.toNat^m.toNat))->zC 198 #[zP f,zL Ax rows.length cx,zL A rows.length c,Y (n:Int)] W fun e w'=>e=.returned (zS W.heap.size n n)/\Row w' W.heap.size W.heap.size n (nz (vecM (opsT p.toNat m.toNat (lOf p m mod)) x rows n rows.length))/\Below W.heap.size W w'):=fun f W hW hG=>by
  have:=vec_c f W.heap.size p.toNat m.toNat n (mdOf m mod) (lOf p m mod) x rows Ax cx A c W (field_ft K) hG (Nat.le_refl _) ((hX.keep hW).more hW.size) ((hA.keep hW).more hW.size) aa (fun k hk=>by
   rw[show x.getD k 0=x[k] by simp[List.getD,hk]]
   exact hx _ (List.getElem_mem _)) Q U0 U0
  rw[aa] at this;exact this
 clear hM hA hX hx hz Q R;generalize vecM (opsT p.toNat m.toNat (lOf p m mod)) x rows n rows.length=u at *;go_enter Tryz.func146,Tryz.ntmps146;go_upto_region 1 with fail;generalize (w.alloc (Ce p m Am mod.length cm)).alloc (Cp n A rows.length c)=l at *;have r:Hid (l.rangeAt w.heap.size 0 (Ci p m Am mod.length cm)):=C.out.range (i:=0) rfl;have s:Hid (l.rangeAt (w.heap.size+1) 0 (De n A rows.length c)):=C.out.range (i:=1) rfl;have v:Below l.heap.size l (l.alloc (Cp n A rows.length c)):=(Below.refl _ _).alloc (Nat.le_refl _) _;have d:=zH (C.out.grow v);have q:=zH (open_c p m mod Am cm (n:Int) (nzs rows) A c l.heap.size 1 (l.alloc (Cp n A rows.length c)) ((O.out.keep d.out.below).more d.out.below.size) U0 ((M.out.keep d.out.below).more d.out.below.size) (by rw[nzs_len];omega) (by rw[nzs_len];exact heap_alloc_new _ _));clear v;go_wp2_with (first|(refine wpList_load_mid rfl 29 (.tmp 3) rfl w.heap.size 0 rfl (Ci p m Am mod.length cm) _ r.out Tryz.underlying29 rfl fieldSize ?_)|(refine wpList_load_mid rfl 54 (.tmp 5) rfl (w.heap.size+1) 0 rfl (De n A rows.length c) _ s.out Tryz.underlying54 rfl matSize ?_));(with_reducible refine q.out.mono ?_);rintro e E ⟨hb1,hcase⟩;have b:=zH (d.out.grow hb1);clear hb1 C d q r s O M I;rcases hcase with⟨h,_⟩|⟨_,L,_⟩|⟨_,_,f,rfl,D⟩
 . rw[K] at h;cases h
 . exact absurd c2 L
 have X:=zH D;have o:=zH (N.out f E b.out.below D);have j:=zH (P.out f E b.out.below D);have V:E.cell? (zA (w.heap.size+1) 1)=some (zL A rows.length c):=b.out.cell (i:=1) rfl rfl;have U:E.cell? (zA (w.heap.size+1) 0)=some (Y (n:Int)):=b.out.cell (i:=1) rfl rfl;have S:((rows.length:Int) != (rows.length:Int))=false:=bne_self_eq_false _;have B:=b.out.below.size;clear D N P K c2 aa;go_wp2_with fail;(with_reducible refine o.out.mono ?_);rintro e w2 ⟨⟨z,rfl⟩,rfl⟩;clear o;by_cases g:z=0
 . subst g;go_wp2_with fail;(with_reducible refine j.out.mono ?_);rintro e w3 ⟨rfl,hrow,hb3⟩;have t:=zH (hrow.base B);have H:=zH (b.out.below.trans (hb3.mono B));clear hrow hb3 j U V;go_wp2_with fail;go_ret2;exact .inr ⟨⟨_,rfl,t.out⟩,H.out⟩
 . have T:(z != 0)=true:=bne_iff_ne.2 g;have J:=zH g;clear g j;go_wp2_with fail;go_ret2;exact .inl ⟨⟨z,J.out,rfl⟩,b.out.below⟩
def EncPost(w:World)(n k:Nat)(x:List Nat)(u:List Nat)(e:Ending)(w':World):Prop:=
 Below w.heap.size w w'/\((∃z:Int,z≠0/\e=.returned (.tuple #[zL none 0 0,Y z]))\/(x.length=k/\∃g:Nat,e=.returned (.tuple #[zS g n n,Y 0])/\Row w' w.heap.size g n (nz u)))
theorem encode_c(p m:Int)(mod:List Int)(Am:Option Addr)(cm n:Nat)(ab:List (List Int))(A:Option Addr)(c:Nat)(x:List Nat)(Ax:Option Addr)(cx:Nat)(w:World)(ha:CD.At ⟨p,m,mod,Am,cm,n,ab,A,c⟩ w)(hX:IntsAt w w.heap.size Ax (nz x))(hx:∀ y∈x,y<p.toNat ^ m.toNat)(ac:x.length<=1000):
 zC 78 #[Ck p m Am mod.length cm n A ab.length c,zL Ax x.length cx] w (EncPost w n ab.length x (vecM (opsT p.toNat m.toNat (lOf p m mod)) x (natR ab) n ab.length)):=by
 have L:Hid (SBoxC w (Ca p m Am mod.length cm n A ab.length c) (w.alloc (Cf p m Am mod.length cm n A ab.length c))):=
  ⟨heap_alloc_new _ _,(Below.refl _ _).alloc (Nat.le_refl _) _,U2⟩
 obtain⟨R,a2,a3,S,P,T,N⟩:=qbW ha.z;dsimp only at R S P T N;have B:Hid (∀W,Below w.heap.size w W->zC 27 #[Ck p m Am mod.length cm n A ab.length c] W fun e w'=>e=.returned (Y 0)/\Below W.heap.size W w'):=fun W hW=>by have h:=ha.keep hW;have:=codecheck_c p m mod Am cm (n:Int) ab A c W h.mod U0 h.gen U0;rw[h.z] at this;exact this
 have E:Hid (∀W,Below w.heap.size w W->zC 145 #[Ch p m Am mod.length cm,zL Ax x.length cx,Y (ab.length:Int)] W fun e w'=>(∃z:Int,e=.returned (Y z)/\(z=0->x.length=ab.length))/\Below W.heap.size W w'):=fun W hW=>by have:=list_c p m mod Am cm (nz x) Ax cx ab.length W (ha.keep hW).mod P ((hX.keep hW).more hW.size) (by rw[qaA];exact ac);rw[qaA] at this;exact this
 have r:Hid (x.length=ab.length->∀W,Below w.heap.size w W->zC 146 #[Ch p m Am mod.length cm,zL Ax x.length cx,Cy n A ab.length c] W (VecPost W n (vecM (opsT p.toNat m.toNat (lOf p m mod)) x (natR ab) n ab.length))):=fun he W hW=>by have h:=ha.keep hW;have:=mvec_c p m mod Am cm n (natR ab) A c x Ax cx W h.mod (by rw[N];exact h.gen) (by rw[N];exact h.z) ((hX.keep hW).more hW.size) hx (by rw[natR_len];exact he);rw[natR_len] at this;rw[he];exact this
 clear ha hX hx R a2 a3 S P T N;generalize vecM (opsT p.toNat m.toNat (lOf p m mod)) x (natR ab) n ab.length=u at *;go_enter Tryz.func78,Tryz.ntmps78;go_upto_region 1 with fail;generalize w.alloc (Cf p m Am mod.length cm n A ab.length c)=X at *;have H:=zH L.out.range;have v:=zH (B.out X L.out.2.1);go_wp2_with (refine wpList_load_mid rfl 32 (.tmp 2) rfl w.heap.size 0 rfl (Ca p m Am mod.length cm n A ab.length c) _ H.out Tryz.underlying32 rfl codeSz ?_);(with_reducible refine v.out.mono ?_);rintro e U ⟨rfl,hb1⟩;have i:=zH (L.out.grow hb1);clear hb1 L v H B;have I:=zH i.out.range3;have y4:U.cell? (zA w.heap.size 4)=some (zL A ab.length c):=cell_of_row _ _ 4 _ _ _ i.out.1;have C:=zH (E.out U i.out.2.1);go_wp2_with (refine wpList_load_mid rfl 29 (.tmp 11) rfl w.heap.size 0 rfl (Ci p m Am mod.length cm) _ I.out Tryz.underlying29 rfl fieldSize ?_);(with_reducible refine C.out.mono ?_);rintro e V ⟨⟨z,rfl,K⟩,hb2⟩;have s:=zH (i.out.grow hb2);have M:=zH K;clear hb2 i C I E y4 K;by_cases o:z=0;rotate_left
 . have aa:(z != 0)=true:=bne_iff_ne.2 o;have O:=zH o;clear o r;go_wp2_with fail;go_ret2;exact⟨s.out.2.1,.inl ⟨z,O.out,rfl⟩⟩
 subst o;have D:Hid (x.length=ab.length):=M.out rfl;have f:=zH (r.out D.out);have q:Hid (SBoxC w (Ca p m Am mod.length cm n A ab.length c) V.drew):=s.out.grow (Below.refl _ _).drew;clear M s r;go_upto_region 6 with fail;refine qaS 9 9 (SBoxC w (Ca p m Am mod.length cm n A ab.length c)) [(1,0),(0,1),(1,2),(0,3),(2,4),(2,5),(1,6),(1,7),(1,8)] default U1 U1 (fun _ _ d _ _ h=>by cases d<;>exact h) q.out ?_;generalize V.drew=Z at *;simp only[List.map_cons,List.map_nil,List.getD_cons_zero,List.getD_cons_succ];apply qaM rfl
 . intro W;go_simp;rfl
 go_simp;refine qaT rfl 29 (.tmp 21) rfl w.heap.size 0 rfl (Ci p m Am mod.length cm) _ (fun W hW=>hW.range3) Tryz.underlying29 rfl fieldSize ?_;go_simp;apply qaM rfl
 . intro W;go_simp;rfl
 go_simp;refine qaT rfl 32 (.tmp 2) rfl w.heap.size 0 rfl (Ca p m Am mod.length cm n A ab.length c) _ (fun W hW=>hW.range) Tryz.underlying32 rfl codeSz ?_;go_simp;apply qbE rfl
 . go_simp;exact⟨rfl,rfl⟩
 refine(gen_c p m Am mod.length cm (n:Int) A ab.length c Z).mono ?_;rintro e w3 ⟨rfl,hb3⟩;have b:=zH (q.out.grow hb3);refine⟨_,rfl,b.out,?_⟩;go_simp;clear hb3 q;apply qbE rfl
 . go_simp;exact⟨rfl,rfl⟩
 refine(f.out w3 b.out.2.1).mono ?_;rintro e w4 t;have Q:=b.out.2.1;rcases t with⟨⟨z,K,rfl⟩,k⟩|⟨⟨g,rfl,l⟩,k⟩
 . have j := zH (b.out.grow k);have M:=zH K;refine ⟨_,rfl,j.out,?_⟩;go_simp;clear k K b f
   iterate 3
    apply qaM rfl
    . intro W
      go_simp
      rfl
    go_simp
   refine qbH ?_;show wpList _ _ _ _ _ _;go_simp;go_wp2_with fail;go_ret2;exact⟨j.out.2.1,.inl ⟨z,M.out,rfl⟩⟩
 . have j := zH (b.out.grow k);have J:=zH (l.base (Nat.le_trans Q.size l.lt.1));refine ⟨_,rfl,j.out,?_⟩;go_simp;clear k l b f
   iterate 3
    apply qaM rfl
    . intro W
      go_simp
      rfl
    go_simp
   refine qbH ?_;show wpList _ _ _ _ _ _;go_simp;go_wp2_with fail;go_ret2;exact⟨j.out.2.1,.inr ⟨D.out,g,rfl,J.out⟩⟩
end Go.Proofs.YtndipkplnkfoeaaGreat
namespace Go.Proofs.YtndipkplnkfoeaaGreat
open Go.RowKit Pln
open Al
theorem vecM_wd{q n f:Nat}{O:Ops}(h:Fld q O){x:List Nat}{rows:List (List Nat)}(l:∀ k,k<n->x.getD k 0<q)(g:Grid q n f rows):∀ k,k<=n->∀ j,wd h (vecM O x rows f k) j=sm k fun i=>El.of h (x.getD i 0)*wd h (rows.getD i []) j
 |0,_,j=>qeH f j
 |k + 1,hk,j=>by
   have H:=El.fd (h:=h)
   have c:=vecM_mem h.self l g (by have:=h.q1;omega) k U0
   have d:=g.row (i:=k) U0
   show _=sm k (fun i=>El.of h (x.getD i 0)*wd h (rows.getD i []) j)+El.of h (x.getD k 0)*wd h (rows.getD k []) j
   unfold vecM
   by_cases b:x.getD k 0=0
   . rw[if_pos b,vecM_wd h l g k U0 j,b,El.of_zero,H.zmul,H.zadd]
   . rw[if_neg b,wd_addRow (l k U0) c.2 d.2 (by rw[c.1,d.1]),vecM_wd h l g k U0 j]
theorem zw_scale(O:Ops)(c:Nat)(y row:List Nat):List.zipWith (fun a b=>O.add a (O.neg b)) y (scaleRow O c row)=List.zipWith (subF O c) y row:=by unfold scaleRow;rw[List.zipWith_map_right];rfl
theorem qeN{q:Nat}{O:Ops}(h:Fld q O){v:List Nat}(c:∀x∈v,x<q)(j:Nat):wd h v j=0 ↔ v.getD j 0=0:=by
 constructor
 . intro e;have b:=h.q1;exact El.of_inj (h:=h) (getD_ok c U0 j) U0 (e.trans El.of_zero.symm)
 . intro e;unfold wd;rw[e];exact El.of_zero
def posX(own all:List Nat):List Nat:=all.filter fun p=>!decide (p∈own)
def XRow(O:Ops)(q na nt:Nat)(ga gb gt:List (List Nat))(own all:List Nat)(r:List Nat):Prop:=
 ∃x∈ga,∃y:List Nat,Dv.Ok q na y/\RedI O q na gb x y/\(∀p∈own,y.getD p 0=0)/\(posX own all).length=gt.length/\r=x++vecM O ((posX own all).map fun p=>y.getD p 0) gt nt gt.length
theorem xrow_q{O:Ops}{q A B:Nat}(h:Fld q O){u C t:List (List Nat)}{own s:List Nat}(v:∀r∈u,Dv.Ok q A r)(z:Grid q t.length B t){r:List Nat}(D:XRow O q A B u C t own s r):QX h A B u C t own (posX own s) (wd h r):=by
 obtain⟨x,g,y,l,f,d,m,rfl⟩:=D;have b:=v x g;have o:=h.q1;refine⟨(InC.mem g).congr fun j hj=>(qcT (by rw[b.1];exact hj)).symm,wd h y,(f h).congr fun j hj=>?_,fun p hp=>?_,fun j hj=>?_⟩
 . rw[qcT (by rw[b.1];exact hj)]
 . exact(qeN h l.2 p).2 (d p hp)
 . (have c:∀k,k<t.length->((posX own s).map fun p=>y.getD p 0).getD k 0=y.getD ((posX own s).getD k 0) 0:=fun k hk=>by simp[List.getD,show k<(posX own s).length by omega]);rw[<- b.1,wd_app_r,vecM_wd h (n:=t.length) (fun k hk=>by rw[c k hk];exact getD_ok l.2 U0 _) z t.length (Nat.le_refl _) j];refine(El.fd (h:=h)).sm_congr fun i hi=>?_;rw[c i hi];rfl
theorem own_step{O:Ops}{q n:Nat}(h:Fld q O){g:List (List Nat)}{own:List Nat}{y:List Nat}{i:Nat}(m:Grid q g.length n g)(_:own.length=g.length)(p:∀ a k,a<g.length->k<g.length->at2 g a (own.getD k 0)=if a=k then 1 else 0)(l:i<g.length)(j:Dv.Ok q n y)(r:∀ t,t<i->y.getD (own.getD t 0) 0=0):∀ t,t<i+1->(List.zipWith (subF O (y.getD (own.getD i 0) 0)) y (g.getD i [])).getD (own.getD t 0) 0=0:=fun t ht=>by
 have H:=El.fd (h:=h)
 have f:=h.q1
 have b:y.getD (own.getD i 0) 0<q:=getD_ok j.2 U0 _
 obtain⟨c,d⟩:=subF_ok h b j (m.row l)
 refine(qeN h c.2 _).1 ?_
 rw[d,<- qcJ,p i t l U0]
 by_cases e:t=i
 . subst e
   rw[if_pos rfl,El.of_one,H.umul]
   exact H.addN _
 . rw[if_neg (fun e2=>e e2.symm),El.of_zero,H.mulZ,H.negz,H.zadd]
   exact(qeN h j.2 _).2 (r t U0)
end Go.Proofs.YtndipkplnkfoeaaGreat
