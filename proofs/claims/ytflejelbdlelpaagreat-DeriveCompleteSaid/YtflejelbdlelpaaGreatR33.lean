/- Parts of the proof. -/
import Derived.Test.YtflejelbdlelpaaGreatR32
set_option maxRecDepth 100000
set_option maxHeartbeats 8000000
namespace Go.Proofs.YtflejelbdlelpaaGreat
open Go.RowKit Pln
def gst(O:Ops)(rows:LL)(t:LL × LN)(s:Nat):LL × LN:=
 if nzIx (Al.redG O t.1 t.2 (Al.colOf rows s) t.1.length) 0<0 then t
 else(t.1++[scaleRow O (O.inv ((Al.redG O t.1 t.2 (Al.colOf rows s) t.1.length).getD (nzIx (Al.redG O t.1 t.2 (Al.colOf rows s) t.1.length) 0).toNat 0)) (Al.redG O t.1 t.2 (Al.colOf rows s) t.1.length)],t.2++[(nzIx (Al.redG O t.1 t.2 (Al.colOf rows s) t.1.length) 0).toNat])
def gf(O:Ops)(rows:LL)(set:LN):LL × LN:=set.foldl (gst O rows) ([],[])
structure ExB (w:Wo) (B0 bp gb p m:Nat) (l:LN) (A:OA) (rows:LL) (ST:OA) (TS:List LI):Prop where
 g:GFAt w B0 gb p m l (logL l (p^m))
 a:RowsAt w B0 A (nzs rows)
 t:RowsAt w B0 ST TS
 b:B0<=bp
end Go.Proofs.YtflejelbdlelpaaGreat
namespace Go.Proofs.YtflejelbdlelpaaGreat
open Go.RowKit Pln Go.Proofs.Tryz
def mixF(O:Ops)(a y x:Nat):Nat:=if a=0\/x=0 then y else O.add y (O.mul a x)
def wl(O:Ops)(q:Nat):LL->LN->LL
 |[],u=>[u]
 |r :: rs,u=>(List.range q).flatMap fun a=>wl O q rs (List.zipWith (mixF O a) u r)
def SubAt{α:Type}(WL:List α)(k:Nat)(L:List α):Prop:=∃a b,WL=a++(L++b)/\a.length=k
theorem range_cut{a q:Nat}(h:a<q):∃t,List.range q=List.range a++(a :: t):=by
 induction q with
 |zero=>omega
 |succ q ih=>
  by_cases e:a=q
  . subst e;exact⟨[],by rw[List.range_succ]⟩
  . obtain⟨t,b⟩:=ih U0;exact⟨t++[q],by rw[List.range_succ,b];simp⟩
theorem SubAt.one{α:Type}{d:List α}{k q a:Nat}{f:Nat->List α}(h:SubAt d k ((List.range q).flatMap f))(g:a<q):SubAt d (k+((List.range a).flatMap f).length) (f a):=by obtain⟨x,y,e,c⟩:=h;obtain⟨t,b⟩:=range_cut g;exact⟨x++(List.range a).flatMap f,t.flatMap f++y,by rw[e,b];simp[List.append_assoc],by rw[List.length_append,c]⟩
theorem SubAt.lt{c:LL}{k:Nat}{u:LN}(h:SubAt c k [u]):k<c.length/\c.getD k []=u:=by obtain⟨x,y,e,b⟩:=h;rw[e];subst b;exact⟨U2,by simp[List.getD]⟩
theorem range_snoc{α:Type}(a:Nat)(f:Nat->List α):(List.range (a+1)).flatMap f=(List.range a).flatMap f++f a:=by rw[List.range_succ];simp
structure WkP where
 (l bo Ba Bc By Bg Bf gb p m n cg:Nat)
 (tb:LN) (Ag:OA) (rows:LL) (v0 v1 v2:Value)
def WkP.far(X:WkP)(b:Nat):Prop:=Far X.l X.bo X.Ba b
def WkP.same(X:WkP)(W W':Wo):Prop:=SameBut X.l X.bo X.Ba W W'
def RowsFq(w:Wo)(p:Nat->Prop)(A:OA)(rows:LL):Prop:=
 0<rows.length->∃b o,A=some (zA b o)/\p b/\b<w.heap.size/\∀i,i<rows.length->∃Ai ci,w.cell? (zA b (o+i))=some (zL Ai (rows.getD i []).length ci)/\IntsQ w p Ai (nz (rows.getD i []))
theorem IntsQ.same{l bo Ba:Nat}{W g:Wo}{A:OA}{zs:LI}(h:IntsQ W (Far l bo Ba) A zs)(i:SameBut l bo Ba W g):IntsQ g (Far l bo Ba) A zs:=fun hz=>by
 obtain⟨b,o,e,c,f,d⟩:=h hz
 exact⟨b,o,e,c,Nat.lt_of_lt_of_le f i.1,fun j hj=>i.cell (p:=(zA b (o+j))) c (d j hj)⟩
theorem RowsFq.same{l bo Ba:Nat}{W q:Wo}{A:OA}{rows:LL}(h:RowsFq W (Far l bo Ba) A rows)(n:SameBut l bo Ba W q):RowsFq q (Far l bo Ba) A rows:=fun hz=>by
 obtain⟨b,o,e,c,m,k⟩:=h hz
 refine⟨b,o,e,c,Nat.lt_of_lt_of_le m n.1,fun i hi=>?_⟩
 obtain⟨d,f,g,j⟩:=k i hi
 exact⟨d,f,n.cell (p:=(zA b (o+i))) c g,j.same n⟩
def WkP.field(X:WkP)(W:Wo):Prop:=
 X.far X.gb/\X.gb<W.heap.size/\∃(A3:OA)(n3 c3 ge ce gl cl:Nat),X.far ge/\X.far gl/\W.heap[X.gb]?=some (Ci X.p X.m A3 n3 c3 ((X.p^X.m:Nat):Int) ge X.tb.length ce gl (logL X.tb (X.p^X.m)).length cl)/\
  zI W (zO ge) (nz X.tb)/\zI W (zO gl) (nz (logL X.tb (X.p^X.m)))
theorem WkP.field_same{X:WkP}{W s:Wo}(h:X.field W)(r:X.same W s):X.field s:=by obtain⟨d,f,g,q,i,l,j,m,k,b,c,n,o,p⟩:=h;exact⟨d,Nat.lt_of_lt_of_le f r.1,g,q,i,l,j,m,k,b,c,(r.2 _ f d).trans n,r.ints b o,r.ints c p⟩
theorem WkP.field_at{X:WkP}{W:Wo}(h:X.field W):GFAt W W.heap.size X.gb X.p X.m X.tb (logL X.tb (X.p^X.m)):=by obtain⟨_,n,b,o,c,g,d,i,f,_,_,j,k,l⟩:=h;exact⟨n,b,o,c,g,d,i,f,j,k,l⟩
structure WkX (X:WkP) (k:Nat) (W:Wo):Prop where
 fc:X.far X.Bc
 code:W.rangeAt X.Bc 0 [X.v0,X.v1,X.v2,Y (X.n:Int),zL X.Ag X.rows.length X.cg]
 gen:RowsFq W X.far X.Ag X.rows
 cnt:W.heap[X.Ba]?=some (.cells #[Y (k:Int)] 3 (0,0))
 yld:X.far X.By/\W.cell? (zA X.By 0)=some (.func (.yield X.l) #[] #[])
 gee:X.far X.Bg/\W.cell? (zA X.Bg 0)=some (zP X.gb)
 frm:X.far X.Bf/\W.cell? (zA X.Bf 0)=some (.func (.func 159) #[] (Ca X.Bc X.Ba X.By X.Bg X.Bf))
 gf:X.field W
section
variable {X:WkP} {k:Nat} {W W':Wo}
theorem WkX.same(h:WkX X k W)(b:X.same W W'){c:Nat}(d:W'.heap[X.Ba]?=some (.cells #[Y (c:Int)] 3 (0,0))):WkX X c W':=
 ⟨h.fc,SameBut.range b h.fc h.code,RowsFq.same h.gen b,d,⟨h.yld.1,SameBut.cell (p:=(zA X.By 0)) b h.yld.1 h.yld.2⟩,⟨h.gee.1,SameBut.cell (p:=(zA X.Bg 0)) b h.gee.1 h.gee.2⟩,⟨h.frm.1,SameBut.cell (p:=(zA X.Bf 0)) b h.frm.1 h.frm.2⟩,X.field_same h.gf b⟩
theorem WkX.lt(h:WkX X k W):X.Ba<W.heap.size:=(Array.getElem?_eq_some_iff.1 h.cnt).1
theorem WkX.grow(h:WkX X k W)(b:zB W W'):WkX X k W':=h.same (.of_below b) ((b.block X.Ba h.lt).trans h.cnt)
theorem WkX.set(h:WkX X k W)(b:Nat):WkX X b (W.setCell (zA X.Ba 0) (Y (b:Int))):=h.same (.set _) (heap_set_same h.cnt 0 _)
end
def RndX(l bo Bz n:Nat)(WL:LL)(J:Nat->Wo->Prop):Prop:=
 ∀(k g c:Nat)(W:Wo),k<WL.length->J k W->Bz<=W.heap.size->Row W Bz g c (nz (WL.getD k []))->YieldAt Fence.wide 0 prog l (Cl k g n c) W (RndOk l bo J k W)
def FromX1(X:WkP)(J:Nat->Wo->Prop)(k:Nat)(W:Wo)(e:Ending)(W':Wo):Prop:=
 e=.returned (.bool true)/\WkX X k W'/\J k W'/\X.same W W'
theorem fromE_c(X:WkP)(Bz:Nat)(WL:LL)(J:Nat->Wo->Prop)(hJ:∀j A B,J j A->Below Bz A B->J j B)(hz:Bz<=X.Ba)(ad:X.Ba≠X.l)(ae:X.Ba≠X.bo)(hY:RndX X.l X.bo Bz X.n WL J)(ah:WL.length<=65536)(hn:1<=X.n)(ag:X.n<=64)(k:Nat)(u:LN)(hu:SubAt WL k [u])(af:u.length=X.n)(Aw:OA)(cw:Nat)(W:Wo)(hS:WkX X k W)(h0:J k W)(hA:IntsQ W X.far Aw (nz u)):
 zC 159 (Ch (X.rows.length:Int) Aw X.n cw X.Bc X.Ba X.By X.Bg X.Bf) W (FromX1 X J (k+1) W):=by
 obtain⟨m,P⟩:∃m,zK (m=k+1):=⟨_,rfl⟩;rw[<- P.o];obtain⟨hk,I⟩:=hu.lt;have U:(m:Int)=(k:Int)+1:=by have:=P.o;omega
 have t:=zH hS;have HY:zK (∀(g c:Nat)(W:Wo),J k W->Bz<=W.heap.size->Row W Bz g c (nz u)->YieldAt Fence.wide 0 prog X.l (Cl k g X.n c) W (RndOk X.l X.bo J k W)):=fun g c W h1 h2 h3=>hY k g c W hk h1 h2 (by rw[I];exact h3);have N:=zH hJ;have ab:IntKind.i64.wrap ((k:Int)+1)=(k:Int)+1:=IntWalk.i64_in _ U0;have ac:IntKind.i64.wrap ((m:Int)-1)=(k:Int):=by rw[IntWalk.i64_in _ U0];omega
 have c4:W.cell? (zA X.Bc 4)=some (zL X.Ag X.rows.length X.cg):=t.o.code 4 _ rfl;have ca:W.cell? (zA X.Ba 0)=some (Y (k:Int)):=cell_of_row _ _ 0 _ _ _ t.o.cnt;have fa:W.frozen? (zA X.Ba 0)=false:=by simp[World.frozen?,t.o.cnt]
 have d:=zH (t.o.set m);have s:=zH (N.o k W _ h0 ((Below.refl Bz W).setCell (p:=(zA X.Ba 0)) hz (Y (m:Int))));rw[U] at d s;have r:zK (X.same W (W.setCell (zA X.Ba 0) (Y ((k:Int)+1)))):=SameBut.set _;have v:zK (IntsQ (W.setCell (zA X.Ba 0) (Y ((k:Int)+1))) X.far Aw (nz u)):=IntsQ.same hA r.o;have E:zK (Bz<=(W.setCell (zA X.Ba 0) (Y ((k:Int)+1))).heap.size):=by show _<=_;have:=t.o.lt;simp;omega
 clear hS hY hJ h0 hA I hu;refine(callsIn_wide (n:=0)).1 ?_;refine callsIn_of_wp func159 rfl trivial ?_;simp only[ntmps159,List.size_toArray,List.length_cons,List.length_nil,Nat.reduceAdd,Nat.reduceSub,Array.replicate_succ,Array.replicate_zero,List.push_toArray,List.append_toArray,List.nil_append,List.cons_append];clear U;repeat(first|go_values|gi_guarded|gi_step|gi_upon)
 generalize W.setCell (zA X.Ba 0) (Y ((k:Int)+1))=q at *;clear c4 ca fa t;refine qdK 5 5 (WkX X m) [(0,0),(0,1),(1,2),(1,3),(2,4)] default noBar_wide U1 U1 U1 (d.o.same SameBut.drew d.o.cnt) ?_;have C:=zH (N.o _ q q.drew s.o (Below.refl Bz q).drew);have x:zK (X.same W q.drew):=SameBut.trans r.o .drew;have i:zK (Bz<=q.drew.heap.size):=E.o;have f:zK ((nz u).length=X.n):=by show _=_;rw[qaA,af]
 have L:=zH (sclone_c (nz u) Aw cw q.drew (IntsQ.same v.o SameBut.drew).ints (by rw[f.o];omega) (by rw[f.o];omega));rw[f.o] at L;have D:zK (WkX X m q.drew):=d.o.same SameBut.drew d.o.cnt;clear s r E v d;generalize q.drew=Wd at *;simp only[List.map_cons,List.map_nil,List.getD_cons_zero,List.getD_cons_succ];apply qbF rfl
 . intro V S;have y:=S.yld.2;go_simp;rfl
 go_simp;apply qbF rfl
 . intro V S;have y:V.cell? (zA X.Ba 0)=some (Y (m:Int)):=cell_of_row _ _ 0 _ _ _ S.cnt;go_simp;rfl
 go_simp;apply qaM rfl
 . intro V;go_simp;rfl
 go_simp;apply qaM rfl
 . intro V;go_simp;rfl
 go_simp;apply qbE rfl
 . go_simp;exact⟨rfl,rfl⟩
 with_reducible refine L.o.mono ?_
 rintro e H ⟨⟨g,c,rfl,hrow⟩,hb2⟩;have h:=zH (D.o.grow hb2);have O:=zH (N.o _ Wd H C.o (hb2.mono i.o));have M:zK (X.same W H):=SameBut.trans x.o (.of_below hb2);have R:zK (Bz<=H.heap.size):=Nat.le_trans i.o hb2.size;have Q:=zH (hrow.base (Nat.le_trans i.o hrow.lt.1));refine⟨_,rfl,h.o,?_⟩;go_simp;refine qbH ?_;show wpListIn _ _ _ _ _ _ _ _;clear hrow hb2 D C x i L;obtain⟨fn,aa,K,T,hy,Z⟩:=HY.o g c H O.o R.o Q.o;gi_wp2_with ((try refine⟨rfl,?_⟩);refine Z.mono ?_;clear Z;rintro e W3 ⟨rfl,hJ3,hsz3,hsm3⟩);go_ret;have z:X.same H W3:=⟨hsz3,fun b hb hf=>hsm3 b hb hf.1 hf.2.1⟩;exact⟨rfl,h.o.same z ((hsm3 X.Ba h.o.lt ad ae).trans h.o.cnt),P.o ▸ hJ3,SameBut.trans M.o z⟩
theorem set_self{L:LN}{j:Nat}(b:j<L.length):L.set j (L.getD j 0)=L:=by rw[show L.getD j 0=L[j] by simp[List.getD,b]];exact List.set_getElem_self b
theorem mixF_lt{q:Nat}{O:Ops}(h:Al.Fld q O){a y x:Nat}(c:a<q)(b:y<q)(d:x<q):mixF O a y x<q:=by
 unfold mixF;split
 . exact b
 . exact h.addL _ _ b (h.mulL _ _ c d)
theorem mix_ok{q n:Nat}{O:Ops}(h:Al.Fld q O){a:Nat}{u row:LN}(f:a<q)(d:Dv.Ok q n u)(c:Dv.Ok q n row):Dv.Ok q n (List.zipWith (mixF O a) u row):=by refine⟨by rw[List.length_zipWith,d.1,c.1,Nat.min_self],fun z hz=>?_⟩;obtain⟨j,b,rfl⟩:=List.getElem_of_mem hz;rw[List.getElem_zipWith];exact mixF_lt h f (d.2 _ (List.getElem_mem _)) (c.2 _ (List.getElem_mem _))
def RelXa(X:WkP)(q:Nat)(J:Nat->Wo->Prop)(k:Nat)(f:Nat->LL)(W:Wo)(v29:Value)(wr:Wo):Prop:=
 ∃a:Nat,a<=q/\v29=Y (a:Int)/\WkX X (k+((List.range a).flatMap f).length) wr/\J (k+((List.range a).flatMap f).length) wr/\X.same W wr
def RelXb(wo:Wo)(g c n:Nat)(f:Nat->Nat->Nat)(u row:LN)(v40:Value)(wr:Wo):Prop:=
 ∃j:Nat,j<=n/\v40=Y (j:Int)/\Row wr wo.heap.size g c (nz (zwK f u row j))/\zB wo wr
theorem fromS_c(X:WkP)(q:Nat)(hq:X.p ^ X.m=q)(Bz:Nat)(J:Nat->Wo->Prop)(hJ:∀ j A B,J j A->Below Bz A B->J j B)(hz:Bz<=X.Ba)(bn:X.l<Bz)(bq:X.bo<Bz)(md:LN)(hF:FT X.p X.m md X.tb)(hn:1<=X.n)(bp:X.n<=64)(r:Nat)(hr:r<X.rows.length)(br:X.rows.length<=1000)(row:LN)(bm:X.rows.getD r []=row)(bi:Dv.Ok (q) X.n row)(f:Nat->LL)(k:Nat)(u:LN)(bj:Dv.Ok (q) X.n u)(bh:∀ (a:Nat)(Aw:OA)(cw:Nat)(W:Wo),a<q->WkX X (k+((List.range a).flatMap f).length) W->J (k+((List.range a).flatMap f).length) W->IntsQ W X.far Aw (nz (List.zipWith (mixF (opsT X.p X.m X.tb) a) u row))->zC 159 (Ch ((r:Int)+1) Aw X.n cw X.Bc X.Ba X.By X.Bg X.Bf) W (FromX1 X J (k+((List.range (a+1)).flatMap f).length) W))(Aw:OA)(cw:Nat)(W:Wo)(hS:WkX X k W)(h0:J k W)(hA:IntsQ W X.far Aw (nz u)):
 zC 159 (Ch r Aw X.n cw X.Bc X.Ba X.By X.Bg X.Bf) W (FromX1 X J (k+((List.range (q)).flatMap f).length) W):=by
 have ak:=zH bh;have s:=zH hS;have HJ:=zH hJ;have HA:=zH hA;have HG:=zH (X.field_at hS.gf);have HO:=zH (gorder_e X.gb W.heap.size X.p X.m X.tb (logL X.tb (X.p^X.m)) W HG.o);rw[hq] at HO;have HQ:=zH hq;have c4:W.cell? (zA X.Bc 4)=some (zL X.Ag X.rows.length X.cg):=s.o.code 4 _ rfl;have cg:=s.o.gee.2;have ar:=Al.fld_of hF;rw[hq] at ar;have bd:q<=4096:=by have:=hF.small.q;rw[hq] at this;omega
 have aj:zK (RelXa X q J k f W (Y ((0:Nat):Int)) W):=⟨0,U0,rfl,by simpa using hS,by simpa using h0,.refl⟩;have I:=zH bi;have K:=zH bj;have ba:((r:Int)==(X.rows.length:Int))=false:=beq_false_of_ne U0;have r0:(0:Int)<=(r:Int):=U0;have r1:(r:Int)<(X.rows.length:Int):=U0;clear hS hJ h0 hA HG bh bi bj hq;go_enter func159,ntmps159;go_wp2_with fail;refine HO.o.mono ?_;rintro e w' ⟨rfl,rfl⟩;clear HO cg c4 s;go_wp2;go_loopw [29] (fun v29 wr=>RelXa X q J k f W v29 wr) (fun v29 _=>q-(intOf v29).toNat);case atStart=>exact aj.o
 case round =>
  obtain⟨a,ha,rfl,hS,hj,hE⟩:=hrel;have s:=zH hS;have T:=zH hj;have HE:=zH hE;clear hS hj hE aj;by_cases ab:a<q
  . (have a0 : (0 : Int) <= (a : Int) := by omega);have a1:(a:Int)<(q:Int):=U0;have be:IntKind.i64.wrap ((a:Int)+1)=(a:Int)+1:=IntWalk.i64_in _ U0;(have H:zK ((nz u).length=X.n):=by show _=_;rw [qaA,K.o.1]);have HC:=zH (sclone_c (nz u) Aw cw wr (IntsQ.same HA.o HE.o).ints (by rw [H.o];omega) (by rw [H.o];omega));rw [H.o] at HC;go_wp2_with fail;go_fit HC.o;rintro e w1 ⟨⟨g,c,rfl,b⟩,hb1⟩;have a7:=b.lt;have bb:=s.o.lt;have az:zK (X.far g):=⟨U0,U0,U0⟩;have ae:zK (RelXb wr g c X.n (mixF (opsT X.p X.m X.tb) a) u row (Y ((0:Nat):Int)) w1):=⟨0,U0,rfl,by rw [zwK_zero];exact b,hb1⟩;obtain ⟨bG,oG,al,_,a6,ao⟩:=s.o.gen U0;obtain ⟨Ai,ci,P,aa⟩:=ao r hr;rw [bm] at P aa;rw [I.o.1] at P;obtain ⟨R,ro,ap,_,a4,an⟩:=aa (by rw [qaA,I.o.1];omega);(have ag:zK (∀ j,j<X.n->wr.cell? (zA R (ro+j))=some (Y ((row.getD j 0:Nat):Int))):=fun j hj=>by rw [an j (by rw [qaA,I.o.1];exact hj),qaC]);(have c4:w1.cell? (zA X.Bc 4)=some (zL (some (zA bG oG)) X.rows.length X.cg):=by rw [<- al];exact (s.o.grow hb1).code 4 _ rfl);(have cG:w1.cell? (zA bG (oG+r))=some (zL (some (zA R ro)) X.n ci):=by rw [<- ap];exact (hb1.cell (p:=(zA bG (oG+r))) a6).trans P);clear b hb1 P aa HC ao an al ap;generalize wr=wo at *;go_wp2_with fail;clear c4 cG;go_loopw [40] (fun v40 wr=>RelXb wo g c X.n (mixF (opsT X.p X.m X.tb) a) u row v40 wr) (fun v40 _=>X.n-(intOf v40).toNat);case atStart=>exact ae.o
    case round =>
     obtain⟨j,bc,rfl,b,hb⟩:=hrel;have O:=zH b;have D:=zH hb;clear b hb ae;(have i:zK (u.length=row.length):=by show _=_;rw[K.o.1,I.o.1]);by_cases au:j<X.n
     . (have j0 : (0 : Int) <= (j : Int) := by omega);have j1:(j:Int)<(X.n:Int):=U0;have bf:IntKind.i64.wrap ((j:Int)+1)=(j:Int)+1:=IntWalk.i64_in _ U0;(have M:j<u.length:=by rw [K.o.1];exact au);have cR:wr.cell? (zA R (ro+j))=some (Y ((row.getD j 0:Nat):Int)):=(D.o.cell (p:=(zA R (ro+j))) a4).trans (ag.o j au);have v:=zH (zwK_set (f:=mixF (opsT X.p X.m X.tb) a) i.o M);have y1:=O.o.cell (j:=j) (by rw [qaA,zwK_len i.o U0];exact M);rw [qaC,zwK_at i.o M] at y1;(have Z:zK ((zwK (mixF (opsT X.p X.m X.tb) a) u row j).set j (u.getD j 0)=zwK (mixF (opsT X.p X.m X.tb) a) u row j):=by have:=set_self (L:=zwK (mixF (opsT X.p X.m X.tb) a) u row j) (j:=j) (by rw [zwK_len i.o U0];exact M);rw [zwK_at i.o M] at this;exact this);have a9:u.getD j 0<q:=Al.getD_ok K.o.2 U0 j;have aw:row.getD j 0<q:=Al.getD_ok I.o.2 U0 j;have f1:=O.o.frozen j;generalize row.getD j 0=x at *;generalize u.getD j 0=y at *;by_cases C:a=0\/x=0
       . have N : mixF (opsT X.p X.m X.tb) a y x = y := if_pos C;rw [N,Z.o] at v;(have aq:(((a:Int) != 0) && ((x:Int) != 0))=false:=by rcases C with h|h <;> subst h <;> simp);clear N Z;rcases C with h|h
         . (have ac : ((a : Int) != 0) = false:=by rw[h];rfl);clear h aq;go_wp2;go_roundw;case rel=>exact⟨j+1,U0,U3,by rw[<- v.o];exact O.o,D.o⟩
           case measure=>first|(simp[intOf];done)|(simp[intOf];omega)
         . (have a8 : ((x : Int) != 0) = false := by rw [h];rfl);clear h aq;by_cases h:a=0
           . (have ac : ((a : Int) != 0) = false:=by rw[h];rfl);clear h;go_wp2;go_roundw;case rel=>exact⟨j+1,U0,U3,by rw[<- v.o];exact O.o,D.o⟩
             case measure=>first|(simp[intOf];done)|(simp[intOf];omega)
           . (have ac : ((a : Int) != 0) = true:=by rw[bne_iff_ne];omega);go_wp2;go_roundw;case rel=>exact⟨j+1,U0,U3,by rw[<- v.o];exact O.o,D.o⟩
             case measure=>first|(simp[intOf];done)|(simp[intOf];omega)
       . have N : mixF (opsT X.p X.m X.tb) a y x = (opsT X.p X.m X.tb).add y ((opsT X.p X.m X.tb).mul a x) := if_neg C;rw [N] at v;rw [not_or] at C;(have ac:((a:Int) != 0)=true:=by rw [bne_iff_ne];omega);(have a8:((x:Int) != 0)=true:=by rw [bne_iff_ne];omega);have S:=zH (X.field_at (s.o.grow D.o).gf);have cg:=(s.o.grow D.o).gee.2;(have HM:zK (∀ V,SDrew wr V->zC 137 (Cf X.gb a x) V fun e w'=>e=.returned (Y (((opsT X.p X.m X.tb).mul a x:Nat):Int))/\SDrew wr w'):=fun V ⟨n,Q⟩=>by subst Q;refine (mul_c a x X.gb X.p X.m wr.heap.size md X.tb (wr.drewN n) hF (S.o.keep (qaB (Below.refl wr.heap.size wr) n)) (by rw [HQ.o];exact ab) (by rw [HQ.o];exact aw)).mono ?_;rintro e w' ⟨he,k,rfl⟩;exact ⟨he,n+k,U9⟩);have av:(opsT X.p X.m X.tb).mul a x<q:=ar.mulL _ _ ab aw;(have ax:zK (∀ V,SDrew wr V->zC 138 (Cf X.gb y (((opsT X.p X.m X.tb).mul a x:Nat):Int)) V fun e w'=>e=.returned (Y (((opsT X.p X.m X.tb).add y ((opsT X.p X.m X.tb).mul a x):Nat):Int))/\SDrew wr w'):=fun V ⟨n,Q⟩=>by subst Q;refine (add_c y _ X.gb X.p X.m wr.heap.size X.tb _ (wr.drewN n) hF.small (S.o.keep (qaB (Below.refl wr.heap.size wr) n)) (by rw [HQ.o];exact a9) (by rw [HQ.o];exact av)).mono ?_;rintro e w' ⟨he,k,rfl⟩;exact ⟨he,n+k,U9⟩);clear S N Z C av;generalize (opsT X.p X.m X.tb).add y ((opsT X.p X.m X.tb).mul a x)=z at *;generalize (opsT X.p X.m X.tb).mul a x=d at *;go_upto_region 12 with fail;refine qaI 12 (SDrew wr) U1 U1 ⟨1,rfl⟩ ?_;simp only [List.take_succ_cons,List.take_zero,List.drop_succ_cons,List.drop_zero]
         repeat (first
          | (apply qaJ rfl
             . intro V Q
               obtain⟨n,rfl⟩:=Q
               go_simp
               rfl
             go_simp)
          | (apply qaO rfl
             . intro V Q
               go_simp
               exact⟨rfl,rfl⟩
             . intro V Q
               first
                |exact HM.o V Q
                |exact ax.o V Q
             go_simp))
         refine qaE ?_;intro w2 a5;obtain⟨n,rfl⟩:=a5;go_wp2;go_roundw;case rel=>refine⟨j+1,U0,U3,?_,(D.o.trans ((qaB (Below.refl wr.heap.size wr) n).mono D.o.size)).setCell (p:=(zA g j)) a7.1 _⟩;rw[<- v.o,<- qbC];exact Row.set (w:=wr.drewN n) O.o j _
         case measure=>first|(simp[intOf];done)|(simp[intOf];omega)
     . (obtain rfl : j = X.n:=by omega);have U:=zH (s.o.grow D.o);have ai:=zH (HJ.o _ wo wr T.o (D.o.mono (Nat.le_of_lt (Nat.lt_of_le_of_lt hz s.o.lt))));have af:zK (X.same W wr):=SameBut.trans HE.o (.of_below D.o);(have ad:zwK (mixF (opsT X.p X.m X.tb) a) u row X.n=List.zipWith (mixF (opsT X.p X.m X.tb) a) u row:=by rw[<- K.o.1];exact zwK_all i.o);(have ah:zK (IntsQ wr X.far (zO g) (nz (List.zipWith (mixF (opsT X.p X.m X.tb) a) u row))):=fun hz=>by rw[<- ad];rw[<- ad] at hz;exact⟨g,0,rfl,az.o,O.o.lt.2,fun t ht=>by rw[Nat.zero_add];exact O.o.cell ht⟩);have E:=zH (ak.o a (zO g) c wr ab U.o ai.o ah.o);have cf:=U.o.frm.2;have bg:IntKind.i64.wrap ((r:Int)+1)=(r:Int)+1:=IntWalk.i64_in _ U0;clear s T HE D O ag ad ah;go_wp2_with fail;refine E.o.mono ?_;rintro e w3 ⟨rfl,hs3,hj3',he3⟩;have a3:=zH hs3;have a2:=zH hj3';have ay:zK (X.same W w3):=SameBut.trans af.o he3;clear hs3 hj3' he3 cf E U ai af;go_wp2;go_roundw;case rel=>exact⟨a+1,U0,U3,a3.o,a2.o,ay.o⟩
       case measure=>first|(simp[intOf];done)|(simp[intOf];omega)
  . (obtain rfl:a=q:=by omega);go_wp2;go_ret;exact⟨rfl,s.o,T.o,HE.o⟩
theorem from_c(X:WkP)(q:Nat)(H:X.p ^ X.m=q)(i:Nat)(s:LL)(J:Nat->Wo->Prop)(D:∀ j A B,J j A->Below i A B->J j B)(I:i<=X.Ba)(t:X.l<i)(v:X.bo<i)(K:RndX X.l X.bo i X.n s J)(z:s.length<=65536)(md:LN)(C:FT X.p X.m md X.tb)(E:1<=X.n)(o:X.n<=64)(x:X.rows.length<=1000)(y:∀ r∈X.rows,Dv.Ok q X.n r):∀ (rs:LL)(r:Nat)(u:LN)(k:Nat)(Aw:OA)(cw:Nat)(W:Wo),X.rows.drop r=rs->r<=X.rows.length->Dv.Ok q X.n u->SubAt s k (wl (opsT X.p X.m X.tb) q rs u)->WkX X k W->J k W->IntsQ W X.far Aw (nz u) ->
 zC 159 (Ch r Aw X.n cw X.Bc X.Ba X.By X.Bg X.Bf) W (FromX1 X J (k+(wl (opsT X.p X.m X.tb) q rs u).length) W)
 | [],r,u,k,Aw,cw,W,hd,hr,hu,hs,hS,h0,hA => by
   have e:r=X.rows.length:=by
    have:=congrArg List.length hd
    rw[List.length_drop,List.length_nil] at this
    omega
   subst e
   exact fromE_c X i s J D I U0 U0 K z E o k u hs hu.1 Aw cw W hS h0 hA
 | row :: rs,r,u,k,Aw,cw,W,hd,hr,hu,hs,hS,h0,hA => by
   have b:r<X.rows.length:=by
    have:=congrArg List.length hd
    rw[List.length_drop,List.length_cons] at this
    omega
   have d:=List.drop_eq_getElem_cons b
   rw[hd] at d
   injection d with e1 e2
   have h:X.rows.getD r []=row:=by rw[e1];simp[List.getD,b]
   have c:Dv.Ok q X.n row:=y row (by rw[e1];exact List.getElem_mem b)
   have g:=Al.fld_of C
   rw[H] at g
   refine fromS_c X q H i J D I t v md C E o r b x row h c (fun a=>wl (opsT X.p X.m X.tb) q rs (List.zipWith (mixF (opsT X.p X.m X.tb) a) u row)) k u hu (fun a Aw' cw' W' ha hS' hj' hA'=>?_) Aw cw W hS h0 hA
   have:=from_c X q H i s J D I t v K z md C E o x y rs (r+1) (List.zipWith (mixF (opsT X.p X.m X.tb) a) u row) _ Aw' cw' W' e2.symm b (mix_ok g ha hu c) (hs.one (f:=fun a=>wl (opsT X.p X.m X.tb) q rs (List.zipWith (mixF (opsT X.p X.m X.tb) a) u row)) ha) hS' hj' hA'
   rw[show((r+1:Nat):Int)=(r:Int)+1 by omega] at this
   rw[range_snoc,List.length_append,<- Nat.add_assoc]
   exact this
theorem RowsFq.move{w W:Wo}{P Q:Nat->Prop}{A:OA}{rows:LL}(h:RowsFq w P A rows)(v:zB w W)(x:∀b,b<w.heap.size->P b->Q b):RowsFq W Q A rows:=fun hz=>by
 obtain⟨b,o,e,u,g,t⟩:=h hz
 refine⟨b,o,e,x b g u,Nat.lt_of_lt_of_le g v.size,fun i hi=>?_⟩
 obtain⟨m,n,r,s⟩:=t i hi
 refine⟨m,n,(v.cell (p:=(zA b (o+i))) g).trans r,fun hz2=>?_⟩
 obtain⟨d,l,q,k,c,f⟩:=s hz2
 exact⟨d,l,q,x d c k,Nat.lt_of_lt_of_le c v.size,fun j hj=>(v.cell (p:=(zA d (l+j))) c).trans (f j hj)⟩
theorem RowsFq.rows{w:Wo}{P:Nat->Prop}{A:OA}{rows:LL}(h:RowsFq w P A rows):zR w A (nzs rows):=fun hz=>by
 rw[nzs_len] at hz
 obtain⟨b,o,e,_,k,j⟩:=h hz
 refine⟨b,o,e,k,fun i hi=>?_⟩
 rw[nzs_len] at hi
 obtain⟨c,d,f,g⟩:=j i hi
 rw[nzs_getD,qaA]
 exact⟨c,d,f,g.ints⟩
theorem RowsFq.of_rows{w:Wo}{B:Nat}{P:Nat->Prop}{A:OA}{rows:LL}(h:RowsAt w B A (nzs rows))(r:B<=w.heap.size)(s:∀b,b<B->P b):RowsFq w P A rows:=fun hz=>by
 obtain⟨b,o,e,k,p⟩:=h (by rw[nzs_len];exact hz)
 refine⟨b,o,e,s b k,Nat.lt_of_lt_of_le k r,fun i hi=>?_⟩
 obtain⟨l,m,g,j⟩:=p i (by rw[nzs_len];exact hi)
 rw[nzs_getD,qaA] at g
 rw[nzs_getD] at j
 refine⟨l,m,g,fun hz2=>?_⟩
 obtain⟨f,q,n,c,d⟩:=j hz2
 exact⟨f,q,n,s f c,Nat.lt_of_lt_of_le c r,d⟩
structure CodeW (l bo Bc:Nat) (p m:Int) (mod:LI) (n:Nat) (rows:LL) (Am Ag:OA) (cm cg:Nat) (W:Wo):Prop where
 nl:Bc≠l
 no:Bc≠bo
 code:W.rangeAt Bc 0 (C3 p m Am mod.length cm n Ag rows.length cg)
 gen:RowsFq W (fun b=>b≠l/\b≠bo) Ag rows
 mod:zI W Am mod
theorem walkX_c(l bo Bc:Nat)(p m:Int)(mod:LI)(n:Nat)(rows:LL)(Am Ag:OA)(cm cg:Nat)(J:Nat->Wo->Prop)(w:Wo)(hJ:∀ j A B,J j A->Below w.heap.size A B->J j B)(hl:l<w.heap.size)(ho:bo<w.heap.size)(hC:CodeW l bo Bc p m mod n rows Am Ag cm cg w)(bf:mod.length<=1000000)(be:rows.length<=1000)(hf:fieldOK p m mod=true)(hz:codeZ p m mod (n:Int) (nzs rows)=0)(hn:1<=n)(bd:n<=64)(bb:∀ r∈rows,Dv.Ok (p.toNat ^ m.toNat) n r)(bc:(wl (opsT p.toNat m.toNat (lOf p m mod)) (p.toNat ^ m.toNat) rows (List.replicate n 0)).length<=65536)(hY:RndX l bo w.heap.size n (wl (opsT p.toNat m.toNat (lOf p m mod)) (p.toNat ^ m.toNat) rows (List.replicate n 0)) J)(h0:J 0 w):
 zC 158 #[.func (.yield l) #[] #[],zP Bc] w fun e w'=>(∃v,e=.returned v)/\J (wl (opsT p.toNat m.toNat (lOf p m mod)) (p.toNat^m.toNat) rows (List.replicate n 0)).length w':=by
 have HJ:=zH hJ;have O:=zH hC;have HY:=zH hY;have a0:=zH bc;have ay:=zH bb;have g:zK (zB w (w.alloc (.cells #[.func (.yield l) #[] #[]] 181))):=zV.alloc zn _;have ab:zK ((w.alloc (.cells #[.func (.yield l) #[] #[]] 181)).heap[w.heap.size]?=some (.cells #[.func (.yield l) #[] #[]] 181 (0,0))):=heap_alloc_new _ _;have E:zK (w.heap.size<(w.alloc (.cells #[.func (.yield l) #[] #[]] 181)).heap.size):=by show _ < _;simp
 have R:zK (∀W,zB w W->zC 27 #[C7 p m Am mod.length cm n Ag rows.length cg] W fun e w'=>e=.returned (Y 0)/\zB W w'):=fun W hW=>by have:=codecheck_c p m mod Am cm (n:Int) (nzs rows) Ag cg W ((hC.mod.keep hW).more hW.size) U0 ((hC.gen.rows.keep hW).more hW.size) (by rw[nzs_len];omega);rw[hz,nzs_len] at this;exact this
 have HN:zK (∀W,zB w W->zC 66 #[C4 p m Am mod.length cm] W fun e w'=>(∃gb,e=.returned (.tuple (Cm gb))/\GFUp w' W.heap.size gb p.toNat m.toNat (lOf p m mod) (logL (lOf p m mod) (p.toNat^m.toNat)))/\zB W w'):=fun W hW=>fnew_up p m mod Am cm W ((hC.mod.keep hW).more hW.size) hf;have T:=zH (field_ft hf);have a7:zK (((p.toNat:Nat):Int)=p):=by have:=(qeQ (by have h:=hf;unfold fieldOK at h;rw[Bool.and_eq_true] at h;exact h.1:shapeM p m mod=true)).small.p1;show _=_;omega
 clear hJ hC hY hz hf bc bb;go_enter func158,ntmps158;go_upto_region 1 with fail;generalize w.alloc (.cells #[.func (.yield l) #[] #[]] 181)=W0 at *;have k:zK (W0.rangeAt Bc 0 (C3 p m Am mod.length cm n Ag rows.length cg)):=range_keep_v O.o.code (g.o.block Bc (range_lt O.o.code));have z:=zH (R.o W0 g.o);go_wp2_with (refine wpList_load_mid rfl 27 (.tmp 1) rfl Bc 0 rfl (C3 p m Am mod.length cm n Ag rows.length cg) _ k.o underlying27 rfl codeSize ?_);go_fit z.o;rintro e w1 ⟨rfl,hb1⟩;have i:=zH (g.o.trans (hb1.mono g.o.size));have ac:=zH ((hb1.block w.heap.size E.o).trans ab.o);have H:=zH (Nat.lt_of_lt_of_le E.o hb1.size);clear hb1 g ab E R k z;clear W0;have k:zK (w1.rangeAt Bc 0 (C5 p m Am mod.length cm)):=fun j u hu=>by
  refine range_keep_v O.o.code (i.o.block Bc (range_lt O.o.code)) j u ?_;match j,hu with
  |0,hu=>exact hu
  |1,hu=>exact hu
  |2,hu=>exact hu
  |j+3,hu=>simp at hu
 have ae:=zH (HN.o w1 i.o);go_wp2_with (refine wpList_load_mid rfl 24 (.tmp 11) rfl Bc 0 rfl (C5 p m Am mod.length cm) _ k.o underlying24 rfl fieldSize ?_);go_fit ae.o;rintro e c ⟨⟨gb,rfl,hg⟩,hb2⟩;have HG:=zH hg;have D:=zH (i.o.trans (hb2.mono i.o.size));have ad:=zH ((hb2.block w.heap.size H.o).trans ac.o);have az:=zH (Nat.lt_of_lt_of_le H.o hb2.size);have U:=zH hb2.size;clear hb2 hg i ac HN k ae;go_upto_region 5 with fail;have ag:zK ((((c.alloc (.cells #[zP gb] 95)).alloc (.cells #[Y 0] 3)).alloc (.cells #[.nilFunc] 181)).heap[c.heap.size]?=some (.cells #[zP gb] 95 (0,0))):=(Below.heap_alloc _ _ _ so).trans ((Below.heap_alloc _ _ _ U2).trans (heap_alloc_new _ _));have ah:zK ((((c.alloc (.cells #[zP gb] 95)).alloc (.cells #[Y 0] 3)).alloc (.cells #[.nilFunc] 181)).heap[c.heap.size+1]?=some (.cells #[zN 0] 3 (0,0))):=(Below.heap_alloc _ _ _ U2).trans (alloc_at U2 _);have s:zK ((((c.alloc (.cells #[zP gb] 95)).alloc (.cells #[Y 0] 3)).alloc (.cells #[.nilFunc] 181)).heap[c.heap.size+1+1]?=some (.cells [.nilFunc].toArray 181 (0,0))):=alloc_at U2 _;have P:zK (zB c (((c.alloc (.cells #[zP gb] 95)).alloc (.cells #[Y 0] 3)).alloc (.cells #[.nilFunc] 181))):=((zV.alloc zn _).alloc U2 _).alloc so _;generalize ((c.alloc (.cells #[zP gb] 95)).alloc (.cells #[Y 0] 3)).alloc (.cells #[.nilFunc] 181)=V at *;have y2:V.cell? (zA (c.heap.size+1+1) 0)=some .nilFunc:=cell_of_row _ _ 0 _ _ _ s.o;have f2:V.frozen? (zA (c.heap.size+1+1) 0)=false:=by simp[World.frozen?,s.o]
 go_upto_region 6 with fail;have f:zK (zB c (V.setCell (zA (c.heap.size+1+1) 0) (.func (.func 159) #[] (Ca Bc (c.heap.size+1) w.heap.size c.heap.size (c.heap.size+1+1))))):=P.o.setCell (p:=(zA (c.heap.size+1+1) 0)) (by show c.heap.size<=c.heap.size+1+1;omega) _;have ai:zK ((V.setCell (zA (c.heap.size+1+1) 0) (.func (.func 159) #[] (Ca Bc (c.heap.size+1) w.heap.size c.heap.size (c.heap.size+1+1)))).heap[c.heap.size]?=some (.cells #[zP gb] 95 (0,0))):=(Below.heap_setCell V (zA (c.heap.size+1+1) 0) _ c.heap.size (by show c.heap.size≠c.heap.size+1+1;omega)).trans ag.o;have aj:zK ((V.setCell (zA (c.heap.size+1+1) 0) (.func (.func 159) #[] (Ca Bc (c.heap.size+1) w.heap.size c.heap.size (c.heap.size+1+1)))).heap[c.heap.size+1]?=some (.cells #[zN 0] 3 (0,0))):=(Below.heap_setCell V (zA (c.heap.size+1+1) 0) _ (c.heap.size+1) (by show c.heap.size+1≠c.heap.size+1+1;omega)).trans ah.o;have ak:zK ((V.setCell (zA (c.heap.size+1+1) 0) (.func (.func 159) #[] (Ca Bc (c.heap.size+1) w.heap.size c.heap.size (c.heap.size+1+1)))).heap[c.heap.size+1+1]?=some (.cells [(.func (.func 159) #[] (Ca Bc (c.heap.size+1) w.heap.size c.heap.size (c.heap.size+1+1)))].toArray 181 (0,0))):=heap_set_same s.o 0 _;generalize V.setCell (zA (c.heap.size+1+1) 0) (.func (.func 159) #[] (Ca Bc (c.heap.size+1) w.heap.size c.heap.size (c.heap.size+1+1)))=X at *;clear y2 f2 ag ah s P;have ba:=H.o;have a4:=az.o;have a6:w1.heap.size<=c.heap.size:=U.o;have q:zK (zB w X):=D.o.trans (f.o.mono D.o.size);obtain⟨K,hK⟩:∃K:WkP,K={ l:=l,bo:=bo,Ba:=c.heap.size+1,Bc:=Bc,By:=w.heap.size,Bg:=c.heap.size,Bf:=c.heap.size+1+1,gb:=gb,p:=p.toNat,m:=m.toNat,n:=n,cg:=cg,tb:=lOf p m mod,Ag:=Ag,rows:=rows,v0:=Y p,v1:=Y m,v2:=zL Am mod.length cm }:=⟨_,rfl⟩;have t:zK (WkX K 0 X):=by obtain⟨n1,n2,al,an,a5⟩:=O.o;have l1:=range_lt al;rw[hK];refine⟨⟨n1,n2,by show Bc≠c.heap.size+1;omega⟩,range_keep_v al (q.o.block Bc l1),an.move q.o fun b hb h=>⟨h.1,h.2,by show b≠c.heap.size+1;omega⟩,aj.o,⟨⟨by show w.heap.size≠l;omega,by show w.heap.size≠bo;omega,by show w.heap.size≠c.heap.size+1;omega⟩,cell_of_row _ _ 0 _ _ _ ((f.o.block w.heap.size a4).trans ad.o)⟩,⟨⟨by show c.heap.size≠l;omega,by show c.heap.size≠bo;omega,by show c.heap.size≠c.heap.size+1;omega⟩,cell_of_row _ _ 0 _ _ _ ai.o⟩,⟨⟨by show c.heap.size+1+1≠l;omega,by show c.heap.size+1+1≠bo;omega,by show c.heap.size+1+1≠c.heap.size+1;omega⟩,cell_of_row _ _ 0 _ _ _ ak.o⟩,?_⟩;obtain⟨b0,b1,A3,n3,c3,ge,ce,gl,cl,b2,b3,b4,b5,h1,h2,h3⟩:=HG.o;exact⟨⟨by show gb≠l;omega,by show gb≠bo;omega,by show gb≠c.heap.size+1;omega⟩,Nat.lt_of_lt_of_le b1 f.o.size,A3,n3,c3,ge,ce,gl,cl,⟨by show ge≠l;omega,by show ge≠bo;omega,by show ge≠c.heap.size+1;omega⟩,⟨by show gl≠l;omega,by show gl≠bo;omega,by show gl≠c.heap.size+1;omega⟩,(f.o.block gb b1).trans h1,(h2.keep f.o).more f.o.size,(h3.keep f.o).more f.o.size⟩
 have Z:=zH (HJ.o 0 w X h0 q.o);clear ai aj ak f D ad HG O;obtain⟨i0,ap,aq,ar,au⟩:=qaF infoInt
 have av:zK (∀ (bw cw:Nat)(W:Wo),Far l bo (c.heap.size+1) bw->WkX K 0 W->J 0 W->zI W (zO bw) (nz (List.replicate n 0)) ->
  zC 159 #[Y 0,zS bw n cw,zP Bc,zP (c.heap.size+1),zP w.heap.size,zP c.heap.size,zP (c.heap.size+1+1)] W fun e w'=>e=.returned (.bool true)/\J (wl (opsT p.toNat m.toNat (lOf p m mod)) (p.toNat^m.toNat) rows (List.replicate n 0)).length w'):=
  fun bw cw W hf hs hj ha=>by
   rw[hK] at hs
   have a9:=(Al.fld_of T.o).q1
   refine(from_c { l:=l,bo:=bo,Ba:=c.heap.size+1,Bc:=Bc,By:=w.heap.size,Bg:=c.heap.size,Bf:=c.heap.size+1+1,gb:=gb,p:=p.toNat,m:=m.toNat,n:=n,cg:=cg,tb:=lOf p m mod,Ag:=Ag,rows:=rows,v0:=Y p,v1:=Y m,v2:=zL Am mod.length cm } (p.toNat^m.toNat) rfl w.heap.size _ J HJ.o (by show w.heap.size<=c.heap.size+1;omega) hl ho HY.o a0.o (mdOf m mod) T.o hn bd be ay.o rows 0 (List.replicate n 0) 0 (zO bw) cw W rfl (Nat.zero_le _) ⟨List.length_replicate,fun x hx=>by rw[List.eq_of_mem_replicate hx];omega⟩ ⟨[],[],U2,rfl⟩ hs hj (fun hz=>?_)).mono ?_
   . obtain⟨b',o',e,a2,a3⟩:=ha hz
     injection e with e
     injection e with e1 e2
     subst e1
     subst e2
     exact⟨_,_,rfl,hf,a2,a3⟩
   . rintro e w' ⟨he,_,hj',_⟩
     rw[Nat.zero_add] at hj'
     exact⟨he,hj'⟩
 have I:zK (WkX K 0 X.drew):=t.o.same SameBut.drew t.o.cnt;have aa:=zH (HJ.o 0 X X.drew Z.o (Below.refl _ X).drew);have a1:w.heap.size<=X.drew.heap.size:=q.o.size;have a8:c.heap.size+1<X.drew.heap.size:=by have:=t.o.lt;rw[hK] at this;exact this
 have S:zK (∀V,WkX K 0 V->V.cell? (zA (c.heap.size+1+1) 0)=some (.func (.func 159) #[] (Ca Bc (c.heap.size+1) w.heap.size c.heap.size (c.heap.size+1+1)))/\V.cell? (zA Bc 3)=some (Y (n:Int))):=fun V L=>by rw[hK] at L;exact⟨L.frm.2,L.code 3 _ rfl⟩
 clear Z t q hK;refine qaS 4 4 (WkX K 0) [(0,0),(1,1),(0,2),(2,3)] default U1 U1 (fun _ _ d _ _ h=>by cases d<;>exact h) I.o ?_;generalize X.drew=Xd at *;simp only[List.map_cons,List.map_nil,List.getD_cons_zero,List.getD_cons_succ];apply qbF rfl
 . intro V L;obtain⟨y,_⟩:=S.o V L;go_simp;rfl
 go_simp;apply qaM rfl
 . intro V;go_simp;rfl
 go_simp;apply qbF rfl
 . intro V L;obtain⟨_,y⟩:=S.o V L;go_simp;rfl
 go_simp;refine mixf_make rfl (.tmp 19) (.tmp 19) 22 rfl Xd.heap.size 3 i0 (Y 0) 1 underlying22 ap aq ar .i64 .i64 n rfl rfl (by rw[au];omega) ml zn ?_;intro w3 C ao;have M:=qaL ao;have N:=Row.of_make C;have af:=zH (I.o.grow M);have aw:=zH (HJ.o 0 Xd w3 aa.o (M.mono a1));refine⟨af.o,?_⟩;go_simp;refine qbH ?_;show wpList _ _ _ _ _ _;have Q:=zH (av.o Xd.heap.size n w3 ⟨U0,U0,U0⟩ af.o aw.o (N.ints N.lt.2));clear C ao M N I aa ap aq ar au;go_wp2_with fail;refine Q.o.mono ?_;rintro e w4 ⟨rfl,hj4⟩;have ax:=zH hj4;clear hj4 Q;go_wp2_with fail;go_end0;exact⟨⟨_,rfl⟩,ax.o⟩
def RelEp(q k:Nat)(v1 v8:Value):Prop:=∃i:Nat,i<=k/\v1=Y ((k:Int)-(i:Int))/\v8=Y ((q^i:Nat):Int)/\q^i<=65536
theorem nexp_c(q k:Nat)(w:Wo)(P:2<=q)(N:q<=256)(O:k<=1000):zC 157 #[Y (q:Int),Y (k:Int),Y 65536] w fun e w'=>e=.returned (.tuple #[Y (if q ^ k<=65536 then ((q ^ k:Nat):Int) else 0),Y (if q ^ k<=65536 then 0 else 8)])/\w=w':=by
 have D:¬(q:Int)<0:=U0;have E:¬(k:Int)<0:=U0;have H:((q:Int)==0)=false:=beq_false_of_ne U0;have I:(q:Int)> 1:=U0;have g:zK (RelEp q k (Y (k:Int)) (Y 1)):=⟨0,U0,U2,U2,U2⟩;have l:zK (q^k<=65536->(if q^k<=65536 then((q^k:Nat):Int) else 0)=((q^k:Nat):Int)/\(if q^k<=65536 then(0:Int) else 8)=0):=fun h=>⟨if_pos h,if_pos h⟩;have m:zK (¬q^k<=65536->(if q^k<=65536 then((q^k:Nat):Int) else 0)=0/\(if q^k<=65536 then(0:Int) else 8)=8):=fun h=>⟨if_neg h,if_neg h⟩;generalize (if q^k<=65536 then((q^k:Nat):Int) else 0)=L at *;generalize (if q^k<=65536 then(0:Int) else 8)=M at *;go_enter func157,ntmps157;go_wp2;go_loop [1,8] (fun v1 v8=>RelEp q k v1 v8) (fun v1 _=>(intOf v1).toNat);case atStart=>exact g.out
 case round =>
  obtain⟨i,J,rfl,rfl,s⟩:=hrel;clear g;by_cases t:i<k
  . (have n : (k : Int) - (i : Int) > 0 := by omega);have C:(65536:Int).tdiv (q:Int)=((65536 / q:Nat):Int):=rfl;(have hd:65536 / q<q ^ i ↔ 65536<q ^ (i+1):=by rw [Nat.div_lt_iff_lt_mul U0,Nat.pow_succ]);by_cases j:65536<q ^ (i+1)
    . (have d:¬q^k<=65536:=fun h=>by have:=Nat.pow_le_pow_right (show 0<q by omega) (show i+1<=k by omega);omega);have c:=zH (m.o d);clear d;have p:=hd.2 j;generalize q^i=z at *;generalize 65536 / q=y at *;have r:(z:Int)> (y:Int):=U0;go_wp2;go_ret2;exact⟨by rw[c.o.1,c.o.2];rfl,rfl⟩
    . have p : ¬65536 / q < q^i:=fun h=>j (hd.1 h);(have u:((q^i:Nat):Int)*(q:Int)=((q^(i+1):Nat):Int):=by rw[Nat.pow_succ];push_cast;rfl);have K:65536 / q<=65536:=Nat.div_le_self _ _;generalize f:q^(i+1)=B at *;generalize A:q^i=z at *;generalize 65536 / q=y at *;have r:¬(z:Int)> (y:Int):=U0;(have v:IntKind.i64.wrap ((z:Int)*(q:Int))=(B:Int):=by rw[u];exact IntWalk.i64_in _ U0);have x:IntKind.i64.wrap ((k:Int)-(i:Int)-1)=(k:Int)-(i:Int)-1:=IntWalk.i64_in _ U0;go_wp2;go_round;case rel=>exact⟨i+1,U0,by congr 1;omega,by rw[f],U0⟩
      case measure=>simp[intOf];omega
  . (obtain rfl:i=k:=by omega);have b:=zH (l.o s);have n:¬(i:Int)-(i:Int)> 0:=U0;generalize q^i=z at *;go_wp2;go_ret2;exact⟨by rw[b.o.1,b.o.2];rfl,rfl⟩
theorem size_c(p m:Int)(mod:LI)(n:Nat)(rows:LL)(M Ag:OA)(N cg:Nat)(w:Wo)(P:zI w M mod)(T:mod.length<=1000000)(R:zR w Ag (nzs rows))(Q:rows.length<=1000)(O:fieldOK p m mod=true)(S:codeZ p m mod (n:Int) (nzs rows)=0):
 zC 110 #[C7 p m M mod.length N n Ag rows.length cg] w fun e w'=>e=.returned (.tuple #[Y (if(p.toNat^m.toNat)^rows.length<=65536 then(((p.toNat^m.toNat)^rows.length:Nat):Int) else 0),Y (if(p.toNat^m.toNat)^rows.length<=65536 then 0 else 8)])/\zB w w':=by
 have u:=zH (bx_new w (C3 p m M mod.length N n Ag rows.length cg) 27);have i:zK (∀W,zB w W->zC 27 #[C7 p m M mod.length N n Ag rows.length cg] W fun e w'=>e=.returned (Y 0)/\zB W w'):=fun W hW=>by have:=codecheck_c p m mod M N (n:Int) (nzs rows) Ag cg W ((P.keep hW).more hW.size) U0 ((R.keep hW).more hW.size) (by rw[nzs_len];omega);rw[S,nzs_len] at this;exact this
 have z:zK (∀W,zB w W->zC 66 #[C4 p m M mod.length N] W fun e w'=>(∃gb,e=.returned (.tuple (Cm gb))/\W.heap.size<=gb/\GFAt w' w'.heap.size gb p.toNat m.toNat (lOf p m mod) (logL (lOf p m mod) (p.toNat^m.toNat)))/\zB W w'):=fun W hW=>fnew_ok p m mod M N W ((P.keep hW).more hW.size) O;have H:=(Al.fld_of (field_ft O)).q1;have I:=(field_ft O).small.q;have j:zK (∀W,_):=fun W=>nexp_c (p.toNat^m.toNat) rows.length W U0 U0 Q;have A:zK (∀W gb,GFAt W W.heap.size gb p.toNat m.toNat (lOf p m mod) (logL (lOf p m mod) (p.toNat^m.toNat))->_):=fun W gb h=>gorder_e gb W.heap.size p.toNat m.toNat (lOf p m mod) _ W h;clear P R O S;generalize (p.toNat^m.toNat)^rows.length=x at *;generalize (if x<=65536 then(x:Int) else 0)=K at *;generalize (if x<=65536 then(0:Int) else 8)=L at *;go_enter func110,ntmps110;go_upto_region 1 with fail;generalize w.alloc (C8 p m M mod.length N n Ag rows.length cg)=B at *;have b:=zH u.o.field;have r:=zH (z.o B u.o.below);go_wp2_with (refine wpList_load_mid rfl 24 (.tmp 8) rfl w.heap.size 0 rfl (C5 p m M mod.length N) _ b.o underlying24 rfl fieldSize ?_);go_fit r.o;rintro e C ⟨⟨gb,rfl,hgx,hg⟩,hb1⟩;have f:=zH (u.o.grow hb1);have l:=zH hg;clear hb1 hg hgx z u b r;clear B;have b:=zH f.o.range;have g:=zH (i.o C f.o.below);go_upto_region 2 with fail;go_wp2_with (refine wpList_load_mid rfl 27 (.tmp 1) rfl w.heap.size 0 rfl (C3 p m M mod.length N n Ag rows.length cg) _ b.o underlying27 rfl codeSize ?_);go_fit g.o;rintro e v ⟨rfl,hb2⟩;have t:=zH (f.o.grow hb2);have k:=zH ((l.o.keep hb2).more hb2.size);clear hb2 i g f l b;clear C;go_upto_region 7 with fail;have c:zK (BX w (C3 p m M mod.length N n Ag rows.length cg) 27 v.drew):=t.o.grow zV.drew;have s:=zH (A.o v.drew gb (k.o.keep (Below.refl _ v).drew));refine qaS 8 8 (BX w (C3 p m M mod.length N n Ag rows.length cg) 27) [(1,0),(1,2),(0,3),(1,4),(2,1),(2,5),(1,6),(1,7)] default U1 U1 (fun _ _ d _ _ h=>by cases d<;>exact h) c.o ?_;clear t k A;generalize v.drew=D at *;simp only[List.map_cons,List.map_nil,List.getD_cons_zero,List.getD_cons_succ];generalize p.toNat^m.toNat=q at *
 iterate 2
  apply qaM rfl
  . intro V
    go_simp
    rfl
  go_simp
 apply qbF rfl
 . intro V E;have y:V.cell? (zA w.heap.size 4)=some (zL Ag rows.length cg):=E.cell rfl;go_simp;rfl
 go_simp;apply qaM rfl
 . intro V;go_simp;rfl
 go_simp;apply qbE rfl
 . go_simp;exact⟨rfl,rfl⟩
 with_reducible refine s.o.mono ?_
 rintro e J ⟨rfl,rfl⟩;refine⟨_,rfl,c.o,?_⟩;go_simp;apply qbE rfl
 . go_simp;exact⟨rfl,rfl⟩
 with_reducible refine(j.o D).mono ?_
 rintro e J ⟨rfl,rfl⟩;refine⟨_,rfl,c.o,?_⟩;go_simp
 iterate 2
  apply qaM rfl
  . intro V
    go_simp
    rfl
  go_simp
 refine qbH ?_;show wpList _ _ _ _ _ _;clear s j;go_wp2;go_ret2;exact⟨rfl,c.o.below⟩
end Go.Proofs.YtflejelbdlelpaaGreat
