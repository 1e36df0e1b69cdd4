/- Parts of the proof. -/
import Derived.Test.YtflejelbdlelpaaGreatR15
set_option maxRecDepth 100000
set_option maxHeartbeats 8000000
namespace Go.Proofs.YtflejelbdlelpaaGreat
open Go.RowKit Pln Go.Proofs.Tryz
def MuInv(w:Wo)(p m:Nat)(A:OA)(n c ga gb gc N:Nat)(a b C:LN)(wr:Wo):Prop:=
 Row wr (w.heap.size+1) ga m (nz a)/\Row wr (w.heap.size+1) gb m (nz b)/\Row wr (w.heap.size+1) gc N (nz C)/\SBoxF w p m A n c wr/\ga<gc/\gb<gc
section
variable {w:Wo} {p m:Nat} {A:OA} {n c ga gb gc N:Nat} {a b C:LN} {wr wx:Wo}
theorem MuInv.set(h:MuInv w p m A n c ga gb gc N a b C wr)(k x:Nat):MuInv w p m A n c ga gb gc N a b (C.set k x) (wr.setCell (zA gc k) (Y (x:Int))):=by obtain⟨f,g,d,i,j,l⟩:=h;refine⟨f.far (p:=(zA gc k)) (by show ga≠gc;omega) _,g.far (p:=(zA gc k)) (by show gb≠gc;omega) _,?_,i.wrote d.lt.1 _,j,l⟩;rw[<- qbC];exact d.set k x
theorem MuInv.drewN(h:MuInv w p m A n c ga gb gc N a b C wr)(k:Nat):MuInv w p m A n c ga gb gc N a b C (wr.drewN k):=by obtain⟨d,f,g,i,j,l⟩:=h;exact⟨d,f,g,i.drewN k,j,l⟩
theorem MuInv.grow(h:MuInv w p m A n c ga gb gc N a b C wr)(l:zB wr wx):MuInv w p m A n c ga gb gc N a b C wx:=by obtain⟨d,f,g,i,j,k⟩:=h;exact⟨d.below l d.lt.2,f.below l f.lt.2,g.below l g.lt.2,i.grow l,j,k⟩
theorem MuInv.ca(h:MuInv w p m A n c ga gb gc N a b C wr){k:Nat}(d:k<a.length):wr.cell? (zA ga k)=some (Y ((a.getD k 0:Nat):Int)):=by rw[<- qaC];exact h.1.cell (by rw[qaA];exact d)
theorem MuInv.cb(h:MuInv w p m A n c ga gb gc N a b C wr){k:Nat}(d:k<b.length):wr.cell? (zA gb k)=some (Y ((b.getD k 0:Nat):Int)):=by rw[<- qaC];exact h.2.1.cell (by rw[qaA];exact d)
theorem MuInv.cc(h:MuInv w p m A n c ga gb gc N a b C wr){k:Nat}(d:k<C.length):wr.cell? (zA gc k)=some (Y ((C.getD k 0:Nat):Int)):=by rw[<- qaC];exact h.2.2.1.cell (by rw[qaA];exact d)
end
theorem ints_take{w:Wo}{B:Nat}{A:OA}{C:LN}(h:IntsAt w B A (nz C))(m:Nat)(f:m<=C.length):IntsAt w B A (nz (C.take m)):=fun hz=>by
 rw[qaA,List.length_take] at hz
 obtain⟨b,o,e,c,d⟩:=h (by rw[qaA];omega)
 refine⟨b,o,e,c,fun j hj=>?_⟩
 rw[qaA,List.length_take] at hj
 rw[d j (by rw[qaA];omega),qaC,qaC]
 congr 2
 simp only[List.getD]
 rw[List.getElem?_take_of_lt U0]
def RelC1(w:Wo)(p m:Nat)(A:OA)(n c ga gb gc N:Nat)(a b:LN)(v10:Value)(wr:Wo):Prop:=
 ∃i:Nat,i<=m/\v10=Y (i:Int)/\MuInv w p m A n c ga gb gc N a b (conv p m a b i) wr
def RelC2(w:Wo)(p m:Nat)(A:OA)(n c ga gb gc N:Nat)(a b:LN)(i:Nat)(v11:Value)(wr:Wo):Prop:=
 ∃j:Nat,j<=m/\v11=Y (j:Int)/\MuInv w p m A n c ga gb gc N a b (convRow p i (a.getD i 0) b (conv p m a b i) j) wr
def RelC3(w:Wo)(p m:Nat)(A:OA)(n c ga gb gc N:Nat)(a b md C0:LN)(v12:Value)(wr:Wo):Prop:=
 ∃t i:Nat,t<=m-1/\i+t+1=N/\v12=Y (i:Int)/\MuInv w p m A n c ga gb gc N a b (red p m md C0 t) wr
def RelC4(w:Wo)(p m:Nat)(A:OA)(n c ga gb gc N:Nat)(a b md:LN)(i:Nat)(C1:LN)(v13:Value)(wr:Wo):Prop:=
 ∃j:Nat,j<=m/\v13=Y (j:Int)/\MuInv w p m A n c ga gb gc N a b (redRow p m md i C1 j) wr
theorem rmul_c(p m:Nat)(md:LN)(A:OA)(n c x y:Nat)(w:Wo)(hs:Small p m)(cg:md.length=m)(ci:∀ d∈md,d<p)(hM:2<=m->n=m/\zI w A (nz md))(hx:x<p ^ m)(hy:y<p ^ m):
 zC 88 #[C4 p m A n c,Y x,Y y] w fun e w'=>e=.returned (Y ((refMul p m md x y:Nat):Int))/\zB w w':=by
 have HX:=zH (qbK w p m A n c);have ak:zK (∀W:Wo,zC 85 #[C4 p m A n c,Y x] W fun e w'=>(∃g,e=.returned (zS g m m)/\Row w' W.heap.size g m (nz (digs p m x)))/\zB W w'):=fun W=>rdig_c p m A n c x W hs hx;have al:zK (∀W:Wo,zC 85 #[C4 p m A n c,Y y] W fun e w'=>(∃g,e=.returned (zS g m m)/\Row w' W.heap.size g m (nz (digs p m y)))/\zB W w'):=fun W=>rdig_c p m A n c y W hs hy;have cd:=hs.p1;have ce:=hs.p2;have b8:=hs.m1;have b9:=hs.m2;have ax:zK (refMul p m md x y=val p ((red p m md (conv p m (digs p m x) (digs p m y) m) (m-1)).take m)):=rfl;have an:=zH (qaK p m x);have ao:=zH (qaK p m y);have T:zK (∀k,(digs p m x).getD k 0<p):=fun k=>qeV U0 (qcB U0 m x) k;have U:zK (∀k,(digs p m y).getD k 0<p):=fun k=>qeV U0 (qcB U0 m y) k;have ap:=zH<|fun k=>qeV U0 (m:=m) ⟨cg,ci⟩ k
 have aj:zK (∀i,Dig p (2*m-1) (conv p m (digs p m x) (digs p m y) i)):=fun i=>qcO U0 m _ _ i;have Z:zK (∀i j,Dig p (2*m-1) (convRow p i ((digs p m x).getD i 0) (digs p m y) (conv p m (digs p m x) (digs p m y) i) j)):=fun i j=>qdI U0 i _ _ (qcO U0 m _ _ i) j;have K:zK (∀t,Dig p (2*m-1) (red p m md (conv p m (digs p m x) (digs p m y) m) t)):=fun t=>red_dig U0 m md (qcO U0 m _ _ m) t;have ab:zK (∀i t j,Dig p (2*m-1) (redRow p m md i (red p m md (conv p m (digs p m x) (digs p m y) m) t) j)):=fun i t j=>qdW U0 m md i (red_dig U0 m md (qcO U0 m _ _ m) t) j;have a2:zK (∀(l:LN)(Al:OA)(cl:Nat)(W:Wo),l.length=m->(∀d∈l,d<p)->zI W Al (nz l)->zC 86 #[C4 p m A n c,zL Al m cl] W fun e w'=>e=.returned (Y ((val p l:Nat):Int))/\zB W w'):=fun l Al cl W h1 h2 h3=>by have:=rval_c p m A n c l Al cl W h3 U0 h2 (by rw[h1];have:=hs.q;omega) U0 U0;rw[h1] at this;exact this
 have aq:zK (2<=m->n=m/\∀W,zB w W->IntsAt W w.heap.size A (nz md)):=fun h=>⟨(hM h).1,fun W hW=>(hM h).2.keep hW⟩;have ar:=zH cg;clear hs hx hy ci hM cg;obtain⟨N,P⟩:∃N,N=2*m-1:=⟨_,rfl⟩;have hN:(2:Int)*(m:Int)-1=(N:Int):=U0;have bw:(2:Int)*(m:Int)-2=(N:Int)-1:=U0;have bx:2*m=N+1:=U0;have bs:N<=15:=U0;rw[<- P] at aj Z K ab;have ai:zK (conv p m (digs p m x) (digs p m y) 0=List.replicate N 0):=by show List.replicate (2*m-1) 0=_;rw[P]
 generalize digs p m x=a at *;generalize digs p m y=b at *;obtain⟨i0,hi,bd,be,bf⟩:=qaF infoInt;have HI:=zH hi;have a3:=zH bd;have a4:=zH be;have ag:=zH (show i0.bytes*N<=281474976710656 by rw[bf];omega);have ah:=zH (show N<=maxLen by unfold maxLen;omega);have bu:=zH P;clear hi bd be bf P;go_enter func88,ntmps88;go_upto_region 1 with fail;have ba:zK (w.heap.size+1=(w.alloc (C2 p m A n c)).heap.size):=U7;generalize w.alloc (C2 p m A n c)=W0 at *;have B:=zH HX.o.range;go_wp2_with (refine wpList_load_mid rfl 24 (.tmp 3) rfl w.heap.size 0 rfl (C5 p m A n c) _ B.o underlying24 rfl fieldSize ?_);(with_reducible refine(ak.o W0).mono ?_);rintro e w1 ⟨⟨ga,rfl,hra⟩,hb1⟩;have ac:=zH (HX.o.grow hb1);have C:zK (Row w1 (w.heap.size+1) ga m (nz a)):=hra.base (by have:=hra.lt;have:=ba.out;omega);clear hra hb1 HX B;have B:=zH ac.o.range;go_wp2_with (refine wpList_load_mid rfl 24 (.tmp 3) rfl w.heap.size 0 rfl (C5 p m A n c) _ B.o underlying24 rfl fieldSize ?_);(with_reducible refine(al.o w1).mono ?_);rintro e w2 ⟨⟨gb,rfl,hrb⟩,hb2⟩;have O:=zH (ac.o.grow hb2);have E:zK (Row w2 (w.heap.size+1) gb m (nz b)):=hrb.base (by have:=hrb.lt;have:=C.o.lt;omega);have D:=zH<|C.o.below hb2 C.o.lt.2
 have bc:w.heap.size+1<=w2.heap.size:=O.o.2.1;clear hrb hb2 ac B C ak al;clear w1;have I:=O.o.c1;go_wp2_with (refine wpList_make_full w2 rfl (.tmp 23) (.tmp 23) 22 rfl (w.heap.size+1) 3 i0 (Y 0) 1 underlying22 HI.o a3.o a4.o .i64 .i64 N N N rfl rfl rfl rfl ag.o ah.o bc ?_;intro w3 X a6);have Q:=qaL a6;have a9:=Row.of_make X;have ay:zK (RelC1 w p m A n c ga gb w2.heap.size N a b (Y ((0:Nat):Int)) w3):=⟨0,Nat.zero_le _,rfl,D.o.below Q D.o.lt.2,E.o.below Q E.o.lt.2,by rw[ai.o];exact a9,O.o.grow Q,D.o.lt.2,E.o.lt.2⟩;clear X a6 Q a9 O D E I HI a3 a4 ag ah ai bc;generalize w2.heap.size=H at *;clear w2;go_wp2;go_loopw [10] (fun v10 wr=>RelC1 w p m A n c ga gb H N a b v10 wr) (fun v10 _=>m-(intOf v10).toNat);case atStart=>exact ay.o
 case round =>
  obtain⟨i,hi,rfl,f⟩:=hrel;have r:=zH f;have I:=f.2.2.2.1.c1;clear f ay;by_cases bp:i<m
  . have J : zK (RelC2 w p m A n c ga gb H N a b i (Y ((0 : Nat) : Int)) wr) := ⟨0,Nat.zero_le _,rfl,r.o⟩;go_wp2_with fail;clear I r;go_loopw [11] (fun v11 wr=>RelC2 w p m A n c ga gb H N a b i v11 wr) (fun v11 _=>m-(intOf v11).toNat);case atStart=>exact J.o
    case round =>
     obtain⟨j,hj,rfl,f⟩:=hrel;have r:=zH f;have I:=f.2.2.2.1.c1;clear J;by_cases ae:j<m
     . have s := Z.o i j;have y0:=f.2.2.2.1.c0;have ya:=f.ca (k:=i) (by rw [an.o];exact bp);have yb:=f.cb (k:=j) (by rw [ao.o];exact ae);have yc:=f.cc (k:=i+j) (by rw [s.1];omega);have fc:=f.2.2.1.frozen (i+j);have b2:=T.o i;have b3:=U.o j;have bo:=qeV U0 s (i+j);have aa:zK (convRow p i (a.getD i 0) b (conv p m a b i) (j+1)=(convRow p i (a.getD i 0) b (conv p m a b i) j).set (i+j) (((convRow p i (a.getD i 0) b (conv p m a b i) j).getD (i+j) 0+a.getD i 0*b.getD j 0) % p)):=rfl;have bn:zK (∀ v wr,(∃ j:Nat,j<=m/\v=Y (j:Int)/\MuInv w p m A n c ga gb H N a b (convRow p i (a.getD i 0) b (conv p m a b i) j) wr)->RelC2 w p m A n c ga gb H N a b i v wr):=fun _ _ h=>h;clear f s;generalize convRow p i (a.getD i 0) b (conv p m a b i) j=cj at *;generalize a.getD i 0=u at *;generalize b.getD j 0=v at *;generalize hz:cj.getD (i+j) 0=z at *;have T1:zK (Int.tmod ((z+u*v:Nat):Int) (p:Int)=(((z+u*v) % p:Nat):Int)):=qaY _ _;have af:u*v<=65536:=Nat.le_trans (Nat.mul_le_mul (show u<=256 by omega) (show v<=256 by omega)) U0;(have E1:zK (IntKind.i64.wrap ((i:Int)+(j:Int))=((i+j:Nat):Int)):=by show _=_;rw [Int.natCast_add];exact IntWalk.i64_in _ U0);(have E2:zK (IntKind.i64.wrap ((u:Int)*(v:Int))=((u*v:Nat):Int)):=by show _=_;rw [<- Int.natCast_mul];exact IntWalk.i64_in _ U0);(have E3:zK (IntKind.i64.wrap ((z:Int)+((u*v:Nat):Int))=((z+u*v:Nat):Int)):=by show _=_;rw [Int.natCast_add];exact IntWalk.i64_in _ U0);clear hz;generalize (z+u*v) % p=rr at *;generalize z+u*v=zu at *;generalize u*v=uv at *;have k0:(0:Int)<=((i+j:Nat):Int):=U0;have k1:((i+j:Nat):Int)<(N:Int):=U0;have a0:(0:Int)<=(i:Int):=U0;have a1:(i:Int)<(m:Int):=U0;have b0:(0:Int)<=(j:Int):=U0;have b1:(j:Int)<(m:Int):=U0;have bq:¬ (p:Int)=0:=U0;have a7:¬ p=0:=U0;generalize L:i+j=ij at *;have bi:=zH L;clear L af;go_upto_region 10 with fail;have e1:=E1.o;have e2:=E2.o;have e3:=E3.o;have t1:=T1.out;refine qaI 24 (SDrew wr) U1 U1 ⟨1,rfl⟩ ?_;simp only [List.take_succ_cons,List.take_zero,List.drop_succ_cons,List.drop_zero]
       repeat (apply qaJ rfl
               . intro W V;obtain⟨n',rfl⟩:=V;go_simp;rfl
               go_simp)
       refine qaE ?_;intro w3 ad;obtain⟨n3,rfl⟩:=ad;clear e1 e2 e3 t1 ya yb y0 I;go_wp2;go_roundw;case rel=>exact bn.o _ _ ⟨j+1,U0,U3,by rw[aa.o];exact(r.o.drewN n3).set ij rr⟩
       case measure=>simp[intOf];omega
     . (obtain rfl : j = m:=by omega);clear f;go_wp2;go_roundw;case rel=>exact⟨i+1,U0,U3,r.o⟩
       case measure=>simp[intOf];omega
  . (obtain rfl : i = m := by omega);have az:zK (RelC3 w p i A n c ga gb H N a b md (conv p i a b i) (Y ((N:Int)-1)) wr):=⟨0,N-1,U0,U0,by rw [show ((N-1:Nat):Int)=(N:Int)-1 by omega],r.o⟩;clear r Z aj T U an ao;(generalize conv p i a b i=M at *);go_wp2_with fail;clear I;go_loopw [12] (fun v12 wr=>RelC3 w p i A n c ga gb H N a b md M v12 wr) (fun v12 _=>(intOf v12+1).toNat-i);case atStart=>exact az.o
    case round =>
     obtain⟨t,k,ht,cf,rfl,f⟩:=hrel;have r:=zH f;have I:=f.2.2.2.1.c1;clear f az;by_cases bt:i<=k
     . obtain ⟨hn,cg⟩ := aq.o U0;subst hn;have au:=zH cg;clear cg;have J:zK (RelC4 w p n A n c ga gb H N a b md k (red p n md M t) (Y ((0:Nat):Int)) wr):=⟨0,Nat.zero_le _,rfl,r.o⟩;(have bj:zK (redRow p n md k (red p n md M t) n=red p n md M (t+1)):=by show _=redRow p n md (2*n-2-t) _ n;rw [show 2*n-2-t=k by omega]);have aw:=zH (ab.o k t);go_wp2_with fail;clear I r;generalize red p n md M t=S at *;go_loopw [13] (fun v13 wr=>RelC4 w p n A n c ga gb H N a b md k S v13 wr) (fun v13 _=>n-(intOf v13).toNat);case atStart=>exact J.o
       case round =>
        obtain⟨j,hj,rfl,f⟩:=hrel;have r:=zH f;have I:=f.2.2.2.1.c1;clear J;by_cases ae:j<n
        . have s := aw.o j;obtain ⟨q,rfl⟩:∃ q,k=q+n:=⟨k-n,U0⟩;have y0:=f.2.2.2.1.c0;have y2:=f.2.2.2.1.c2;have yc:=f.cc (k:=q+j) (by rw [s.1];omega);have yk:=f.cc (k:=q+n) (by rw [s.1];omega);have fc:=f.2.2.1.frozen (q+j);obtain ⟨bm,om,rfl,bz,ym⟩:=(au.o wr f.2.2.2.1.1).at_ (k:=j) (by rw [qaA,ar.o];exact ae);rw [qaC] at ym;have b7:=ap.o j;have bo:=qeV U0 s (q+j);have b6:=qeV U0 s (q+n);(have aa:zK (redRow p n md (q+n) S (j+1)=(redRow p n md (q+n) S j).set (q+j) (((redRow p n md (q+n) S j).getD (q+j) 0+(p-(redRow p n md (q+n) S j).getD (q+n) 0)*md.getD j 0) % p)):=by show addAt p _ (q+n-n+j) _=_;rw [Nat.add_sub_cancel];rfl);clear f s;generalize redRow p n md (q+n) S j=cj at *;generalize md.getD j 0=v at *;generalize hz:cj.getD (q+j) 0=z at *;generalize hu:cj.getD (q+n) 0=u at *;have T1:zK (Int.tmod ((z+(p-u)*v:Nat):Int) (p:Int)=(((z+(p-u)*v) % p:Nat):Int)):=qaY _ _;have br:p-u<=256:=U0;have af:(p-u)*v<=65536:=Nat.le_trans (Nat.mul_le_mul br (show v<=256 by omega)) U0;(have E0:zK (IntKind.i64.wrap (((q+n:Nat):Int)-(n:Int))=(q:Int)):=by show _=_;rw [show ((q+n:Nat):Int)-(n:Int)=(q:Int) by omega];exact IntWalk.i64_in _ U0);(have E1:zK (IntKind.i64.wrap ((q:Int)+(j:Int))=((q+j:Nat):Int)):=by show _=_;rw [Int.natCast_add];exact IntWalk.i64_in _ U0);(have E4:zK (IntKind.i64.wrap ((p:Int)-(u:Int))=((p-u:Nat):Int)):=by show _=_;rw [Int.natCast_sub U0];exact IntWalk.i64_in _ U0);(have E2:zK (IntKind.i64.wrap (((p-u:Nat):Int)*(v:Int))=(((p-u)*v:Nat):Int)):=by show _=_;rw [<- Int.natCast_mul];exact IntWalk.i64_in _ U0);(have E3:zK (IntKind.i64.wrap ((z:Int)+(((p-u)*v:Nat):Int))=((z+(p-u)*v:Nat):Int)):=by show _=_;rw [Int.natCast_add];exact IntWalk.i64_in _ U0);clear hz hu;generalize (z+(p-u)*v) % p=rr at *;generalize z+(p-u)*v=zu at *;generalize (p-u)*v=uv at *;generalize p-u=pu at *;have k0:(0:Int)<=((q+j:Nat):Int):=U0;have k1:((q+j:Nat):Int)<(N:Int):=U0;have a0:(0:Int)<=((q+n:Nat):Int):=U0;have a1:((q+n:Nat):Int)<(N:Int):=U0;have b0:(0:Int)<=(j:Int):=U0;have b1:(j:Int)<(n:Int):=U0;have bq:¬ (p:Int)=0:=U0;have a7:¬ p=0:=U0;generalize L:q+j=ij at *;generalize a8:q+n=qn at *;have bi:=zH L;have bv:=zH a8;clear L a8 af;go_upto_region 17 with fail;have e0:=E0.o;have e1:=E1.o;have e2:=E2.o;have e3:=E3.o;have e4:=E4.o;have t1:=T1.out;refine qaI 34 (SDrew wr) U1 U1 ⟨1,rfl⟩ ?_;simp only [List.take_succ_cons,List.take_zero,List.drop_succ_cons,List.drop_zero]
          repeat (apply qaJ rfl
                  . intro W V;obtain⟨n',rfl⟩:=V;go_simp;rfl
                  go_simp)
          refine qaE ?_;intro w3 ad;obtain⟨n3,rfl⟩:=ad;clear e0 e1 e2 e3 e4 t1 ym yk y0 I y2;go_wp2;go_roundw;case rel=>exact⟨j+1,U0,U3,by rw[aa.o];exact(r.o.drewN n3).set ij rr⟩
          case measure=>simp[intOf];omega
        . (obtain rfl : j = n:=by omega);clear f;go_wp2;go_roundw;case rel=>exact⟨t+1,k-1,U0,U0,by rw[show((k-1:Nat):Int)=(k:Int)-1 by omega],by rw[<- bj.o];exact r.o⟩
          case measure=>simp[intOf];omega
     . (have bb : t = i - 1 := by omega);(have av:zK (refMul p i md x y=val p ((red p i md M t).take i)):=by show _=_;rw [ax.o,bb]);have R:=K.o t;(have bh:zK (∀ W,MuInv w p i A n c ga gb H N a b (red p i md M t) W->zC 86 #[C4 p i A n c,zS H i N] W fun e w'=>e=.returned (Y ((refMul p i md x y:Nat):Int))/\MuInv w p i A n c ga gb H N a b (red p i md M t) w'):=fun W hW=>by have:=a2.o ((red p i md M t).take i) (zO H) N W (by rw [List.length_take,R.1];omega) (fun d hd=>R.2 d (List.mem_of_mem_take hd)) (ints_take (hW.2.2.1.ints hW.2.2.1.lt.2) i (by rw [R.1];omega));rw [<- av.o] at this;exact this.mono fun e w' ⟨he,hb⟩=>⟨he,hW.grow hb⟩);clear R a2 av ax K ab aq bb;generalize red p i md M t=S at *;have m0:(0:Int)<=(i:Int):=U0;have m1:(i:Int)<=(N:Int):=U0;go_upto_region 18 with fail;clear I;refine qaD (MuInv w p i A n c ga gb H N a b S) U1 U1 (r.o.grow zV.drew) ?_
       repeat (first
        | (refine qeP rfl 24 (.tmp 3) rfl w.heap.size 0 rfl (C5 p i A n c) _ (fun W hW => hW.2.2.2.1.range) underlying24 rfl fieldSize ?_
           go_simp)
        | (apply qaJ rfl
           . intro W V
             have I:=V.2.2.2.1.c1
             go_simp
             rfl
           go_simp)
        | (apply qaO rfl
           . intro W V
             go_simp
             exact⟨rfl,rfl⟩
           . intro W V
             exact bh.o W V
           go_simp))
       refine qaE ?_;intro w5 a5;have bg:=zH a5.2.2.2.1.1;clear a5;go_wp2;go_ret;exact⟨rfl,bg.o⟩
end Go.Proofs.YtflejelbdlelpaaGreat
