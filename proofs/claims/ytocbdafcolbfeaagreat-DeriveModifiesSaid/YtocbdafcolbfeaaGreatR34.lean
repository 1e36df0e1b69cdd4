/- Parts of the proof. -/
import Derived.Test.YtocbdafcolbfeaaGreatR31
import Derived.Test.YtocbdafcolbfeaaGreatR33
set_option maxRecDepth 100000
set_option maxHeartbeats 8000000
namespace Go.Proofs.YtocbdafcolbfeaaGreat
open Go.RowKit Pln Go.Proofs.Tryz
def imR(O:Ops)(F:Nat->Nat)(P S u:LN)(n:Nat):Nat->LN
 |0=>List.replicate n 0
 |t+1=>(imR O F P S u n t).set (P.getD t 0) (O.mul (S.getD t 0) (F (u.getD t 0)))
theorem imR_len(O:Ops)(F:Nat->Nat)(P S u:LN)(n:Nat):∀t,(imR O F P S u n t).length=n
 |0=>by simp[imR]
 |t+1=>by simp[imR,imR_len O F P S u n t]
theorem imR_ok{O:Ops}{q:Nat}(c:0<q){F:Nat->Nat}{P S u:LN}(b:∀ t,t<u.length->O.mul (S.getD t 0) (F (u.getD t 0))<q)(n:Nat):∀ t,t<=u.length->Dv.Ok q n (imR O F P S u n t)
 |0,_=>Dv.zeros_ok c
 |t + 1,ht=>by
   refine⟨imR_len O F P S u n (t+1),fun x hx=>?_⟩
   unfold imR at hx
   rcases List.mem_or_eq_of_mem_set hx with h|rfl
   . exact(imR_ok c b n t U0).2 x h
   . exact b t U0
def RelIm(W0:Wo)(O:Ops)(F:Nat->Nat)(P S u:LN)(n g:Nat)(v15:Value)(wr:Wo):Prop:=
 ∃t:Nat,t<=u.length/\v15=Y t/\Row wr W0.heap.size g n (nz (imR O F P S u n t))/\zB W0 wr
theorem image_c(gb p m n k:Nat)(mod:LI)(md l P S u:LN)(Ap As Au:OA)(cp cs cu:Nat)(w:Wo)(hF:FT p m md l)(hG:GFM w w.heap.size gb p m mod l (logL l (p ^ m)))(a5:mod.length<=1000000)(hP:zI w Ap (nz P))(hS:zI w As (nz S))(hU:zI w Au (nz u))(a4:u.length=n)(a2:P.length=n)(a3:S.length=n)(hn:n<=64)(hk:k<m)(hp:∀ t,t<n->P.getD t 0<n)(hs:∀ t,t<n->S.getD t 0<p ^ m)(hu:∀ x∈u,x<p ^ m):
 zC 137 #[zP gb,.agg #[zL Ap n cp,zL As n cs,Y (k:Int)],zL Au n cu] w fun e w'=>(∃g c',e=.returned (zS g n c')/\Row w' w.heap.size g c' (nz (imR (opsT p m l) (itN (frN p m l) (k % m)) P S u n n)))/\zB w w':=by
 have au:0<p^m:=by have:=hF.small.p1;exact Nat.pow_pos U0
 obtain⟨zb,az,X⟩:=makeN n U0;have Q:=zH X;have J:zK (zB w (w.alloc (D9 Ap n cp As n cs k))):=zV.alloc zn _;have ad:zK ((w.alloc (D9 Ap n cp As n cs k)).heap[w.heap.size]?=some (D9 Ap n cp As n cs k)):=heap_alloc_new _ _;have ak:zK (w.heap.size<(w.alloc (D9 Ap n cp As n cs k)).heap.size):=by show w.heap.size < _;simp
 have ag:zK (∀W,zB w W->zI W Ap (nz P)):=fun W b=>(hP.keep b).more b.size;have aj:zK (∀W,zB w W->zI W As (nz S)):=fun W b=>(hS.keep b).more b.size;have an:zK (∀W,zB w W->zI W Au (nz u)):=fun W b=>(hU.keep b).more b.size
 have M:=zH<|fun x W hx b=>
  qfS x k gb w.heap.size p m mod md l W hF (hG.keep b) b.size a5 hx U0
 have N:zK (∀(x y:Nat)(W:Wo),x<p^m->y<p^m->zB w W->zC 142 (Cf gb x y) W (Quiet (Y (((opsT p m l).mul x y:Nat):Int)) W)):=fun x y W hx hy b=>
  mul_c x y gb p m w.heap.size md l W hF (hG.keep b).gf hx hy
 have ab:zK (∀x,x<p^m->itN (frN p m l) (k % m) x<p^m):=fun x hx=>itN_lt (fun y hy=>(of_frN hF hy).1) hx _;have af:=zH hp;have ai:=zH hs;have al:zK (∀t,t<n->u.getD t 0<p^m):=fun t _=>Al.getD_ok hu au t;have E:=zH a4;have ae:=zH a2;have ah:=zH a3;clear hG hP hS hU hp hs hu X a4 a2 a3 hF;generalize itN (frN p m l) (k % m)=F at *;generalize opsT p m l=O at *;generalize p^m=q at *;go_enter func137,ntmps137;go_upto_region 1 with fail;generalize w.alloc (D9 Ap n cp As n cs k)=s at *;have K:zK (zB s (s.alloc (.cells zb 3))):=zV.alloc zn _;have R:zK (RelIm s O F P S u n s.heap.size (Y ((0:Nat):Int)) (s.alloc (.cells zb 3))):=⟨0,U0,rfl,Q.o s s.heap.size zn,K.o⟩;clear K Q;go_wp2;go_loopw [15] (fun v15 wr=>RelIm s O F P S u n s.heap.size v15 wr) (fun v15 _=>n-(intOf v15).toNat);case atStart=>exact R.o
 case round =>
  obtain⟨t,ht,rfl,C,hb⟩:=hrel;have a1:t<=n:=by rw[E.o] at ht;exact ht
  have f:=zH C;have HB:=zH hb;have i:=zH<|J.o.trans (hb.mono J.o.size)
  have ap:=hb.size;have aw:=ak.o;have ac:zK ((nz (imR O F P S u n t)).length=n):=by show _=_;rw[qaA,imR_len]
  clear C hb R ht;by_cases r:t<n
  . obtain ⟨bu,ou,rfl,ay,V⟩ := (an.o wr i.o).at_ (k := t) (by rw [qaA,E.o];exact r);obtain ⟨bp,op,rfl,ao,H⟩:=(ag.o wr i.o).at_ (k:=t) (by rw [qaA,ae.o];exact r);obtain ⟨bs,os,rfl,U,I⟩:=(aj.o wr i.o).at_ (k:=t) (by rw [qaA,ah.o];exact r);rw [qaC] at V H I;have ar:=af.o t r;have av:=ai.o t r;have Z:=al.o t r;have T:zK (imR O F P S u n (t+1)=(imR O F P S u n t).set (P.getD t 0) (O.mul (S.getD t 0) (F (u.getD t 0)))):=rfl;have aq:=ab.o _ Z;have t0:(0:Int)<=(t:Int):=U0;have t1:(t:Int)<(n:Int):=U0;generalize P.getD t 0=z at *;generalize S.getD t 0=st at *;generalize u.getD t 0=x at *;(have L:zK (∀ W,LSt wr W->W.cell? (zA w.heap.size 0)=some (zL (some (zA bp op)) n cp)/\W.cell? (zA w.heap.size 1)=some (zL (some (zA bs os)) n cs)/\W.cell? (zA w.heap.size 2)=some (Y (k:Int))/\W.cell? (zA bp (op+t))=some (Y (z:Int))/\W.cell? (zA bs (os+t))=some (Y (st:Int))):=fun W b=>by have hk:W.heap[w.heap.size]?=some (D9 (some (zA bp op)) n cp (some (zA bs os)) n cs k):=(b.block _ U0).trans ((HB.o.block _ aw).trans ad.o);exact ⟨cell_of_row _ _ 0 _ _ _ hk,cell_of_row _ _ 1 _ _ _ hk,cell_of_row _ _ 2 _ _ _ hk,(b.cell (p:=(zA bp (op+t))) ao).trans H,(b.cell (p:=(zA bs (os+t))) U).trans I⟩);have D:zK (∀ W,LSt wr W->zB w W):=fun W b=>i.o.trans (Below.mono b i.o.size);have B:zK (LSt wr wr.drew):=zV.drew;clear H I;go_upto_region 5 with fail;refine qaS 18 18 (LSt wr) [(1,0),(1,1),(0,2),(1,3),(1,4),(0,5),(1,6),(1,7),(0,8),(1,9),(1,10),(0,11),(1,12),(1,13),(1,14),(0,15),(2,16),(2,17)] default U1 U1 (fun _ _ d _ _ h=>by cases d <;> exact h) B.o ?_;simp only [List.map_cons,List.map_nil,List.getD_cons_zero,List.getD_cons_succ]
    iterate 16
     first
      | (apply qaM rfl
         . intro W
           go_simp
           rfl
         go_simp)
      | (apply qbF rfl
         . intro W b
           obtain⟨z0,z1,z2,z3,z4⟩:=L.o W b
           go_simp
           rfl
         go_simp)
    apply qbE rfl
    . go_simp;exact⟨rfl,rfl⟩
    (with_reducible refine(M.o _ _ Z (D.o _ B.o)).mono ?_);rintro e w5 ⟨rfl,hb5⟩;have v:zK (LSt wr w5):=Below.trans B.o (Below.mono hb5 (Below.size B.o));refine⟨_,rfl,v.o,?_⟩;go_simp;apply qbE rfl
    . go_simp;exact⟨rfl,rfl⟩
    (with_reducible refine(N.o _ _ _ av aq (D.o _ v.o)).mono ?_);rintro e w6 ⟨rfl,n6,rfl⟩;have A:zK (LSt wr (w5.drewN n6)):=Below.trans v.o (Below.mono (qaB zV n6) (Below.size v.o));refine⟨_,rfl,A.o,?_⟩;go_simp;refine qbH ?_;(have c:=zH<|f.o.below A.o f.o.lt.2);(have aa:=zH<|HB.o.trans (Below.mono A.o ap));clear hb5 L D v A f V;generalize w5.drewN n6=w6 at *;(have y9:w6.cell? (zA s.heap.size z)=some (Y (((imR O F P S u n t).getD z 0:Nat):Int)):=by have:=c.o.cell (j:=z) (by rw[ac.o];exact ar);rw[qaC] at this;exact this);have yf:=c.o.frozen z;generalize (imR O F P S u n t).getD z 0=y at *;generalize O.mul st (F x)=mm at *;have a0:(z:Int)<(n:Int):=U0;have ax:(0:Int)<=(z:Int):=U0;go_wp2;go_roundw;case rel=>refine⟨t+1,by rw[E.o];omega,gn,?_,aa.o.setCell (p:=(zA s.heap.size z)) zn _⟩;rw[T.o,<- qbC];exact c.o.set z mm
    case measure=>simp[intOf];omega
  . (obtain rfl:t=n:=by omega);go_wp2;go_ret;exact⟨⟨_,_,rfl,f.o.base U0⟩,i.o⟩
theorem monoSize:(prog.info? 36).map (·.size)=some 3:=U1
def imM(O:Ops)(F:Nat->Nat)(P S:LN)(N:Nat)(A:LL):LL:=A.map fun u=>imR O F P S u N N
def ImRow(O:Ops)(F:Nat->Nat)(P S:LN)(N:Nat)(A:LL)(r:LN):Prop:=∃u∈A,r=imR O F P S u N N
theorem imM_len(O:Ops)(F:Nat->Nat)(P S:LN)(N:Nat)(A:LL):(imM O F P S N A).length=A.length:=by simp[imM]
theorem imM_getD(O:Ops)(F:Nat->Nat)(P S:LN)(N:Nat)(A:LL)(k:Nat)(b:k<A.length):(imM O F P S N A).getD k []=imR O F P S (A.getD k []) N N:=by simp[imM,List.getD,b]
theorem nz_natL{zs:LI}(h:∀i,i<zs.length->0<=zs.getD i 0):nz (natL zs)=zs:=by
 refine List.ext_getElem (by rw[qaA,qeV]) fun i h1 h2=>?_;have b:=h i h2;have e:zs.getD i 0=zs[i]:=by simp[List.getD,h2]
 rw[e] at b;simp only[nz,natL,List.getElem_map];omega
theorem qfC{zs:LI}{i:Nat}(b:i<zs.length):(natL zs).getD i 0=(zs.getD i 0).toNat:=by simp[natL,List.getD,b]
theorem apply_c(p m:Int)(mod:LI)(Am:OA)(cm N:Nat)(gs:List LI)(A:OA)(c:Nat)(ps ss:LI)(fr:Int)(Ap As:OA)(cp cs:Nat)(w:Wo)(ha:CD.At ⟨p,m,mod,Am,cm,N,gs,A,c⟩ w)(hP:zI w Ap ps)(hS:zI w As ss)(dd:ps.length<=cp):
 zC 64 #[C8 p m Am mod.length cm N A gs.length c,.agg #[zL Ap ps.length cp,zL As ss.length cs,Y fr]] w (ConPost w p m mod N (MoOk N (p.toNat^m.toNat) m ps ss fr) (ImRow (opsT p.toNat m.toNat (lOf p m mod)) (itN (frN p.toNat m.toNat (lOf p m mod)) (fr.toNat % m.toNat)) (natL ps) (natL ss) N (natR gs))):=by
 obtain⟨a1,a2,a3,a4,a5,a6,a7⟩:=qbW ha.z;dsimp only at a1 a4 a5 a6 a7;have bx:0<p.toNat^m.toNat:=by have:=(Al.fld_of (field_ft a5)).q1;omega
 obtain⟨i0,hi,D,b0,b1⟩:=qaF infoInts;have HI:=zH hi;have cn:=zH D;have co:=zH b0;have cq:=zH b1;have HX:zK (BXT w [((C2 p m Am mod.length cm N A gs.length c),32),([zL Ap ps.length cp,zL As ss.length cs,Y fr],36),((Cd),32)] _):=((((BXT.nil w).push rfl (C2 p m Am mod.length cm N A gs.length c) 32).push U2 [zL Ap ps.length cp,zL As ss.length cs,Y fr] 36).push U2 (Cd) 32);have b3:zK (∀W,zB w W->zR W A gs):=fun W f=>(ha.gen.keep f).more f.size;have au:zK (∀W,zB w W->zI W Am mod):=fun W f=>(ha.mod.keep f).more f.size;have bh:zK (∀W,zB w W->zI W Ap ps):=fun W f=>(hP.keep f).more f.size;have bp:zK (∀W,zB w W->zI W As ss):=fun W f=>(hS.keep f).more f.size;have av:zK (∀W,zB w W->zC 27 #[C8 p m Am mod.length cm N A gs.length c] W fun e w'=>e=.returned (Y 0)/\zB W w'):=fun W f=>by have h:=ha.keep f;have:=codecheck_c p m mod Am cm (N:Int) gs A c W h.mod U0 h.gen U0;rw[h.z] at this;exact this
 have ai:=zH a6;have b2:=zH a7;have bd:=zH a5;have ba:=zH a4;have aj:=zH (field_ft a5);have cf:=zH dd;clear ha a4 a5 a6 a7 hi D b0 b1 hP hS dd;go_enter func64,ntmps64;go_upto_region 1 with fail;generalize ((w.alloc (C4 p m Am mod.length cm N A gs.length c)).alloc (D9 Ap ps.length cp As ss.length cs fr)).alloc (Ca)=W0 at *;have bi:zK (W0.rangeAt w.heap.size 0 (C2 p m Am mod.length cm N A gs.length c)):=HX.o.range (i:=0) rfl;go_wp2_with (refine wpList_load_mid rfl 32 (.tmp 2) rfl w.heap.size 0 rfl (C2 p m Am mod.length cm N A gs.length c) _ bi.o underlying32 rfl codeSz ?_);(with_reducible refine(av.o W0 HX.o.below).mono ?_);rintro e w1 ⟨rfl,hb1⟩;have s:=zH (HX.o.grow hb1);clear hb1 HX bi av;clear W0;have x3:w1.cell? (zA w.heap.size 3)=some (Y (N:Int)):=s.o.cell (i:=0) rfl rfl;have Q:zK (w1.rangeAt w.heap.size 0 (C2 p m Am mod.length cm N A gs.length c)):=s.o.range (i:=0) rfl;have S:zK (w1.rangeAt w.heap.size 0 (C5 p m Am mod.length cm)):=qbO Q.o 0 _ (fun j hj=>by rcases j with _|_|_|j<;>first|rfl|(simp at hj;omega));have bm:=zH<|s.o.range (i:=1) rfl
 have be:=zH (mopen_c p m mod Am cm N ps ss fr Ap As cp cs w1 (au.o w1 s.o.below) bd.o a2 a3 (bh.o w1 s.o.below) (bp.o w1 s.o.below) cf.o);go_wp2_with (first|(refine wpList_load_mid rfl 29 (.tmp 19) rfl w.heap.size 0 rfl (C5 p m Am mod.length cm) _ S.o underlying29 rfl fieldSize ?_)|(refine wpList_load_mid rfl 36 (.tmp 3) rfl (w.heap.size+1) 0 rfl [zL Ap ps.length cp,zL As ss.length cs,Y fr] _ bm.o underlying36 rfl monoSize ?_));go_fit be.o;rintro e n ⟨aa,v,z,rfl,hz⟩;have J:=zH (s.o.grow aa);have an:=zH hz;clear aa hz be S bm Q s x3;by_cases D:z=0;rotate_left
 . have db:=bne_iff_ne.2 D;have cr:=zH D;clear D an;have HK:zK (n.heap[w.heap.size+1+1]?=some (Ca)):=J.o.box 2 _ _ rfl;have HY:zK (BXT w [((C2 p m Am mod.length cm N A gs.length c),32),([zL Ap ps.length cp,zL As ss.length cs,Y fr],36),((Cd),32)] (n.setRow (w.heap.size+1+1) (C6))):=J.o.set 2 rfl (Cd);have al:zK ((n.setRow (w.heap.size+1+1) (C6)).heap[w.heap.size+1+1]?=some (Ca)):=HY.o.box 2 _ _ rfl;go_wp2_with (refine wpList_store_row rfl 32 (.tmp 4) (.tmp 29) rfl n (w.heap.size+1+1) 32 (C6) (C6) rfl rfl HK.o codeSz rfl U3 ?_);refine bodyPost_ret (results_row_one (P:=prog) rfl _ _ (w.heap.size+1+1) 32 (C6) (0,0) _ _ rfl rfl al.o underlying32 rfl codeSz) rfl ?_;exact⟨HY.o.below,.inl ⟨z,cr.o,rfl⟩⟩
 subst D;obtain⟨K,gb,rfl,bt⟩:=an.o rfl;have H:=zH K;have b7:zK (∀W,zB n W->GFM W W.heap.size gb p.toNat m.toNat mod (lOf p m mod) (logL (lOf p m mod) (p.toNat^m.toNat))):=fun W f=>(bt.keep f).more f.size;have bw:=K.pl;have bz:=K.sl;have cd:=zH<|nz_natL fun i hi=>(H.o.rng i hi).1
 have ce:=zH<|nz_natL fun i hi=>(H.o.nz i hi).1
 have V:=zH bw;have I:=zH bz;have az:zK (((fr.toNat:Nat):Int)=fr/\fr.toNat<m.toNat):=by have:=K.f0;have:=K.f1;show _/\_;omega
 have af:zK (∀ (u:LN)(Ai:OA)(ci:Nat)(W:Wo),zB w W->zB n W->zI W Ai (nz u)->Dv.Ok (p.toNat ^ m.toNat) N u->zC 137 #[zP gb,.agg #[zL Ap ps.length cp,zL As ss.length cs,Y fr],zL Ai N ci] W fun e w'=>(∃ g c',e=.returned (zS g N c')/\Row w' W.heap.size g c' (nz (imR (opsT p.toNat m.toNat (lOf p m mod)) (itN (frN p.toNat m.toNat (lOf p m mod)) (fr.toNat % m.toNat)) (natL ps) (natL ss) u N N)))/\zB W w'):=fun u Ai ci W f hWg M L=>by
  have:=image_c gb p.toNat m.toNat N fr.toNat mod (mdOf m mod) (lOf p m mod) (natL ps) (natL ss) u Ap As Ai cp cs ci W aj.o (b7.o W hWg) (by have:=ba.o;omega) (by rw [cd.o];exact bh.o W f) (by rw [ce.o];exact bp.o W f) M L.1 (by rw [qeV];exact V.o) (by rw [qeV];exact I.o) a3 az.o.2
   (fun t ht=>by
     have hb:=H.o.rng t (by rw[V.o];exact ht)
     rw[qfC (by rw[V.o];exact ht)]
     omega)
   (fun t ht=>by
     have hb:=H.o.nz t (by rw[I.o];exact ht)
     rw[qfC (by rw[I.o];exact ht)]
     omega) L.2
  rw[az.o.1] at this;rw[V.o,I.o];exact this
 have ac:zK (∀u,Dv.Ok (p.toNat^m.toNat) N u->Dv.Ok (p.toNat^m.toNat) N (imR (opsT p.toNat m.toNat (lOf p m mod)) (itN (frN p.toNat m.toNat (lOf p m mod)) (fr.toNat % m.toNat)) (natL ps) (natL ss) u N N)):=fun u M=>by
  refine imR_ok bx (fun t ht=>?_) N N (by rw[M.1];exact Nat.le_refl _);rw[M.1] at ht;have hb:=H.o.nz t (by rw[I.o];exact ht);have h1:(natL ss).getD t 0<p.toNat^m.toNat:=by rw[qfC (by rw[I.o];exact ht)];omega
  exact mulT_lt aj.o h1 (itN_lt (fun y hy=>(of_frN aj.o hy).1) (Al.getD_ok M.2 bx t) _)
 clear an K bt bw bz;have cw:=J.o.size;simp only[List.length_cons,List.length_nil] at cw;have y3:n.cell? (zA w.heap.size 3)=some (Y (N:Int)):=J.o.cell (i:=0) rfl rfl;have ae:zK (∀k,k<gs.length->(imM (opsT p.toNat m.toNat (lOf p m mod)) (itN (frN p.toNat m.toNat (lOf p m mod)) (fr.toNat % m.toNat)) (natL ps) (natL ss) N (natR gs)).getD k []=imR (opsT p.toNat m.toNat (lOf p m mod)) (itN (frN p.toNat m.toNat (lOf p m mod)) (fr.toNat % m.toNat)) (natL ps) (natL ss) ((natR gs).getD k []) N N):=fun k hk=>imM_getD _ _ _ _ _ _ k (by rw[natR_len];exact hk);have a0:zK (Grid (p.toNat^m.toNat) (imM (opsT p.toNat m.toNat (lOf p m mod)) (itN (frN p.toNat m.toNat (lOf p m mod)) (fr.toNat % m.toNat)) (natL ps) (natL ss) N (natR gs)).length N (imM (opsT p.toNat m.toNat (lOf p m mod)) (itN (frN p.toNat m.toNat (lOf p m mod)) (fr.toNat % m.toNat)) (natL ps) (natL ss) N (natR gs))):=by refine⟨rfl,fun r hr=>?_⟩;unfold imM at hr;obtain⟨u,M,rfl⟩:=List.mem_map.1 hr;exact ac.o u (ai.o.2 u M)
 have ay:zK (∀r∈imM (opsT p.toNat m.toNat (lOf p m mod)) (itN (frN p.toNat m.toNat (lOf p m mod)) (fr.toNat % m.toNat)) (natL ps) (natL ss) N (natR gs),ImRow (opsT p.toNat m.toNat (lOf p m mod)) (itN (frN p.toNat m.toNat (lOf p m mod)) (fr.toNat % m.toNat)) (natL ps) (natL ss) N (natR gs) r):=fun r hr=>by unfold imM at hr;obtain⟨u,M,rfl⟩:=List.mem_map.1 hr;exact⟨u,M,rfl⟩
 have E:zK ((imM (opsT p.toNat m.toNat (lOf p m mod)) (itN (frN p.toNat m.toNat (lOf p m mod)) (fr.toNat % m.toNat)) (natL ps) (natL ss) N (natR gs)).length=gs.length):=by show _=_;rw[imM_len,natR_len]
 generalize imM (opsT p.toNat m.toNat (lOf p m mod)) (itN (frN p.toNat m.toNat (lOf p m mod)) (fr.toNat % m.toNat)) (natL ps) (natL ss) N (natR gs)=U at *;have bc:zK (OB n N U 0 (zL none 0 0) [] (n.alloc (D1 N))):=OB.start n _ _;have b6:zK (zB n (n.alloc (D1 N))):=zV.alloc zn _;go_upto_region 8 with(refine qaH rfl 54 (.tmp 9) (.tmp 33) rfl n _ #[Y (N:Int),zL none 0 0] rfl rfl matSize rfl U3 ?_);have cl:=zH (J.o.grow b6.o);generalize n.alloc (D1 N)=W2 at *;clear y3;have z4:W2.cell? (zA w.heap.size 4)=some (zL A gs.length c):=cl.o.cell (i:=0) rfl rfl;go_wp2;go_loopw [37] (fun v37 wr=>RelEx1 n N U v37 wr) (fun v37 _=>gs.length-(intOf v37).toNat);case atStart=>exact⟨0,_,_,rfl,U0,bc.o⟩
 case round =>
  obtain⟨k,v,bs,rfl,hk,bv⟩:=hrel;have l:=zH bv;have da:k<=gs.length:=by rw[E.o] at hk;exact hk
  clear bv hk z4 bc;have q:=zH (J.o.grow l.o.below);by_cases aq:k<gs.length
  . obtain⟨bg,og,Ai,ci,rfl,aa,ao,bu,cx,L⟩:=row_atE (b3.o w zV) ai.o b2.o aq;have j0:(0:Int)<=(k:Int):=U0;have j1:(k:Int)<(gs.length:Int):=U0;rw[L.1] at ao;have y6:=(q.o.below.cell (p:=(zA bg (og+k))) aa).trans ao;have b8:zK (∀W,zB w W->zI W Ai (nz ((natR gs).getD k []))):=fun W f=>(bu.keep f).more f.size;have ax:=zH (ae.o k aq);have cj:=zH L;clear bu cx L ao;generalize (natR gs).getD k []=u at *;obtain⟨O,rfl⟩:∃O,O=wr:=⟨wr,rfl⟩;obtain⟨VA,ck,rfl,_⟩:=own_slice' l.o.grid.out;have cy:=l.o.below.size;have aw:zK (∀W,LSt O W->W.cell? (zA n.heap.size 1)=some (zL VA k ck)):=fun W f=>(l.o.grow f).cell1;have a9:zK (∀W,LSt O W->zB w W):=fun W f=>q.o.below.trans (Below.mono f q.o.below.size);have b9:zK (∀W,LSt O W->zB n W):=fun W f=>l.o.below.trans (Below.mono f cy);have bn:zK (∀W,LSt O W->W.rangeAt (w.heap.size+1) 0 [zL Ap ps.length cp,zL As ss.length cs,Y fr]):=fun W f=>(q.o.grow f).range (i:=1) rfl;have T:zK (LSt O O.drew):=zV.drew;(have a8:zK (∀W,LSt O W->zC 137 #[zP gb,.agg #[zL Ap ps.length cp,zL As ss.length cs,Y fr],zL Ai N ci] W fun e w'=>(∃g c',e=.returned (zS g N c')/\Row w' W.heap.size g c' (nz (U.getD k [])))/\zB W w'):=fun W f=>by rw[ax.o];exact af.o u Ai ci W (a9.o W f) (b9.o W f) (b8.o W (a9.o W f)) cj.o);go_upto_region 11 with fail;refine qaS 7 7 (LSt O) [(1,0),(0,1),(1,2),(0,3),(1,4),(2,5),(2,6)] default U1 U1 (fun _ _ d _ _ h=>by cases d<;>exact h) T.o ?_;simp only[List.map_cons,List.map_nil,List.getD_cons_zero,List.getD_cons_succ];apply qaM rfl
    . intro W;go_simp;rfl
    go_simp;apply qbF rfl
    . intro W f;have z1:=aw.o W f;go_simp;rfl
    go_simp;apply qaM rfl
    . intro W;go_simp;rfl
    go_simp;refine qaT rfl 36 (.tmp 3) rfl (w.heap.size+1) 0 rfl [zL Ap ps.length cp,zL As ss.length cs,Y fr] _ bn.o underlying36 rfl monoSize ?_;go_simp;apply qaM rfl
    . intro W;go_simp;rfl
    go_simp;apply qbE rfl
    . go_simp;exact⟨rfl,rfl⟩
    (with_reducible refine(a8.o _ T.o).mono ?_);rintro e w9 ⟨⟨g9,c9,rfl,hrow9⟩,hb9⟩;have B:zK (LSt O w9):=Below.trans T.o (Below.mono hb9 (Below.size T.o));(have ak:=zH<|hrow9.base (Nat.le_trans (Below.size T.o) hrow9.lt.1));refine⟨_,rfl,B.o,?_⟩;go_simp;clear hrow9 hb9;have ab:zK (LSt O (w9.alloc (.cells #[zS g9 N c9] 23))):=B.o.alloc B.o.size _;apply qdM rfl
    . go_simp;exact⟨rfl,rfl⟩
    . exact ab.o
    go_simp;refine qbH ?_;have y1:=aw.o _ ab.o;have bf:=zH (l.o.own B.o (.cells #[zS g9 N c9] 23));have c6:=B.o.size;(have ct:(U.getD k []).length=N:=by rw[ax.o];exact imR_len _ _ _ _ _ _ _);go_wp2_with (at_builtin;refine wpList_append_own_at _ rfl (.tmp 42) (.tmp 47) 30 rfl (n.heap.size+1) 23 i0 _ 1 24 underlying30 HI.o cn.o co.o cq.o rfl dc (zL VA k ck) k ((List.range k).map (hdr U bs)) rfl bf.o (zA w9.heap.size 0) 1 1 [zS g9 N c9] rfl rfl ?c1 ?c2 ?c3 ?c4 ?c5 ?_);case c1=>exact World.news_of_block (cs:=#[zS g9 N c9]) (t:=23) (fr:=(0,0)) (heap_alloc_new w9 _)
    case c2=>intro u M;simp at M;subst M;rfl
    case c3=>unfold maxLen;omega
    case c4=>omega
    case c5=>simp;omega
    intro v' ar C ap _ bq;obtain⟨c7,c8,rfl,_⟩:=own_slice' C;have X:=zH (l.o.step (g:=g9) (c:=c9) (by rw[E.o];exact aq) B.o ak.o (by rw[ct];exact C) ap (by simpa using bq));have Z:ar.heap[n.heap.size]?=(w9.alloc (.cells #[zS g9 N c9] 23)).heap[n.heap.size]?:=ap.block _ (by simp;have:=l.o.size;omega) (fun e=>by have:=(l.o.grid.out.lt _ e.symm).1;omega);rw[heap_alloc_old _ _ (by have:=l.o.size;omega),(l.o.grow B.o).box] at Z;have y2:ar.cell? (zA n.heap.size 1)=some (zL VA k ck):=cell_of_row _ _ 1 _ _ _ Z;(have y3:ar.frozen? (zA n.heap.size 1)=false:=by simp[World.frozen?,Z]);clear C ap bq bf y1 Z;go_wp2;go_roundw;case rel=>exact⟨k+1,_,_,gn,by rw[E.o];omega,X.o⟩
    case measure=>simp[intOf];omega
  . (obtain rfl : k = gs.length:=by omega);obtain⟨VA,ck,rfl,_⟩:=own_slice' l.o.grid.out;(have bo:zK (RowsUp wr (n.heap.size+1) VA (nzs U)):=by have br:=l.o.grid;rw[<- E.o] at br;exact br.up);(have bj:=zH<|l.o.range);have Q:zK (wr.rangeAt w.heap.size 0 (C2 p m Am mod.length cm N A gs.length c)):=q.o.range (i:=0) rfl;have S:zK (wr.rangeAt w.heap.size 0 (C5 p m Am mod.length cm)):=qbO Q.o 0 _ (fun j hj=>by rcases j with _|_|_|j<;>first|rfl|(simp at hj;omega));(have bb:zK (zC 113 #[C7 p m Am mod.length cm,Co N VA gs.length ck] wr (NewPostA wr p m mod N (canonM (opsT p.toNat m.toNat (lOf p m mod)) U N))):=by have:=new_any p m mod Am cm N U VA ck wr (au.o wr q.o.below) (by have:=ba.o;omega) bo.o.rowsAt a2 (qeY bd.o a0.o a3 (by rw[E.o];omega)) (by unfold lengthZ;rw[if_neg U0]);rw[E.o] at this;exact this);clear l bo ai Q af ac ae;go_wp2_with (first|(refine wpList_load_mid rfl 29 (.tmp 51) rfl w.heap.size 0 rfl (C5 p m Am mod.length cm) _ S.o underlying29 rfl fieldSize ?_)|(refine wpList_load_mid rfl 54 (.tmp 9) rfl n.heap.size 0 rfl (Cn N VA gs.length ck) _ bj.o underlying54 rfl matSize ?_));go_fit bb.o;rintro e w5 ⟨⟨Ag,c',R,k',rfl,hu5,hr5⟩,hb5⟩;generalize ag:canonM (opsT p.toNat m.toNat (lOf p m mod)) U N=x at *;have ad:=zH ag;have X:=zH (q.o.grow hb5);have cz:=q.o.size;simp only[List.length_cons,List.length_nil] at cz;have HK:zK (w5.heap[w.heap.size+1+1]?=some (Ca)):=X.o.box 2 _ _ rfl;have HY:zK (BXT w [((C2 p m Am mod.length cm N A gs.length c),32),([zL Ap ps.length cp,zL As ss.length cs,Y fr],36),((C2 p m Ag mod.length c' N R x.length k'),32)] (w5.setRow (w.heap.size+1+1) (Cc p m Ag mod.length c' N R x.length k'))):=X.o.set 2 rfl (C2 p m Ag mod.length c' N R x.length k');have al:zK ((w5.setRow (w.heap.size+1+1) (Cc p m Ag mod.length c' N R x.length k')).heap[w.heap.size+1+1]?=some (C4 p m Ag mod.length c' N R x.length k')):=HY.o.box 2 _ _ rfl;have ch:=zH hu5;have cg:=zH hr5;clear hu5 hr5 hb5 bb S bj q ag;go_wp2_with (refine wpList_store_row rfl 32 (.tmp 4) (.tmp 55) rfl w5 (w.heap.size+1+1) 32 (C6) (Cc p m Ag mod.length c' N R x.length k') rfl rfl HK.o codeSz rfl U3 ?_);refine bodyPost_ret (results_row_one (P:=prog) rfl _ _ (w.heap.size+1+1) 32 (Cc p m Ag mod.length c' N R x.length k') (0,0) _ _ rfl rfl al.o underlying32 rfl codeSz) rfl ?_;have ah:∀b,b≠w.heap.size+1+1->(w5.setRow (w.heap.size+1+1) (Cc p m Ag mod.length c' N R x.length k')).heap[b]?=w5.heap[b]?:=fun b hne=>setRow_other _ _ _ _ hne;refine⟨HY.o.below,.inr ⟨U,Ag,R,c',k',?_,?_,?_,a0.o,a3,H.o,ay.o⟩⟩
    . rw[ad.o];rfl
    . exact(ch.o.of_blocks U2 fun j hj _=>ah j U0).lower U0
    . rw[ad.o];exact(cg.o.of_blocks U2 fun j hj _=>ah j U0).lower U0
def BasOk(p m:Nat)(l:LN)(d:Nat)(L:LI):Prop:=∃right out rows,SysI (p^m) L.length L.length (conF p m l d L) right L.length 0 rows/\Solv (opsT p m l) (p^m) L.length rows out
theorem basis2_c(Z p m:Nat)(d:Int)(mod:LI)(md l:LN)(L:LI)(AL:OA)(cL:Nat)(w:Wo)(hF:FT p m md l)(hG:GFM w w.heap.size Z p m mod l (logL l (p ^ m)))(aa:mod.length<=1000000)(hL:zI w AL L)(_:L.length<=9223372036854775807):
 zC 191 #[zP Z,zL AL L.length cL,Y d] w fun e w'=>(∃z:Int,e=.returned (Y z)/\(z=0->degB m d=true/\L.length=m / d.toNat/\BasOk p m l d.toNat L))/\zB w w':=by
 have i:=zH (qfG Z w.heap.size p m d mod l _ w hG zn aa hF.small.m2);by_cases c:degB m d=true
 . have E := zH c;rw [c] at i;(obtain ⟨b,rfl,q,r⟩:∃ b:Nat,d=(b:Int)/\1<=b/\b<=m:=by unfold degB at c;simp only [Bool.and_eq_true,decide_eq_true_eq] at c;exact ⟨d.toNat,U0,U0,U0⟩);(have v:=zH<|fun W hW=>each_c 0 b Z w.heap.size p m mod md l W hF (hG.keep hW) hW.size aa q r)
   have k:zK (∀(W:Wo)(g:Nat),zB w W->L.length=m / b->Row W w.heap.size g (m / b) (nz (eachL (itN (frN p m l) (b % m)) (m / b) (inZ (p^m) 0)))->zC 229 #[zP Z,zL AL L.length cL,Y (b:Int),zS g L.length L.length] W fun e s=>∃R,e=.returned (zS R L.length L.length)/\zB W s/\
    zC 228 #[zP Z,zS R L.length L.length] s (SsPost s W.heap.size p m l b L (eachL (itN (frN p m l) (b % m)) (m / b) (inZ (p^m) 0)))):=fun W g hW hl hr=>
    syssol Z p m b mod md l L AL cL _ (zO g) L.length W hF ((hG.keep hW).more hW.size) aa q r ((hL.keep hW).more hW.size) hl (hr.ints hr.lt.2) (eachL_lt hF q r _ _) (by rw[qeW,hl])
   have u:zK ((b:Int).toNat=b):=rfl;clear hG hF hL c;generalize eachL (itN (frN p m l) (b % m)) (m / b) (inZ (p^m) 0)=right at *;go_enter func191,ntmps191;go_wp2_with fail;go_fit i.o;rintro N s ⟨rfl,hb1⟩;have B:=zH hb1;go_wp2_with fail;(with_reducible refine(v.o s hb1).mono ?_);rintro Q P ⟨⟨g,rfl,hr⟩,hb2⟩;(have f:=zH<|hb1.trans (hb2.mono hb1.size));(have J:=zH<|hr.base (Nat.le_trans hb1.size hr.lt.1));clear hb1 hb2 hr i v B;by_cases j:L.length=m / b
   . have M:=zH (k.o P g f.o j J.o);have I:=zH j;rw[<- j];clear k j;generalize y:L.length=n at *;have H:=zH y;clear y;go_wp2_with fail;go_fit M.o;rintro S V ⟨R,rfl,hb3,hsol⟩;(have C:=zH<|f.o.trans (hb3.mono f.o.size));have x:=zH hsol;(have K:=zH<|f.o.size);clear hb3 hsol M;go_wp2_with fail;go_fit x.o;rintro T X ⟨he,hb4⟩;(have t:=zH<|C.o.trans (hb4.mono K.o));clear hb4 x;rcases he with rfl|⟨go,out,rfl,_,_,rows,hs1,hs2⟩
     . go_wp2;go_ret;exact⟨⟨9,rfl,fun h=>by cases h⟩,t.o⟩
     . have D:zK (BasOk p m l b L):=⟨right,out,rows,hs1,hs2⟩;clear hs1 hs2;go_wp2;go_ret;exact⟨⟨0,rfl,fun _=>⟨E.o,by rw[u.o,H.o];exact I.o,by rw[u.o];exact D.o⟩⟩,t.o⟩
   . (have O:((L.length:Int) != ((m / b:Nat):Int))=true:=by rw[bne_iff_ne];omega);clear k;generalize m / b=U at *;go_wp2;go_ret;exact⟨⟨9,rfl,fun h=>by cases h⟩,f.o⟩
 . (have A:degB m d=false:=by simpa using c);rw[A] at i;clear c A hG hF hL;go_enter func191,ntmps191;go_wp2_with fail;go_fit i.o;rintro N s ⟨rfl,hb1⟩;go_wp2;go_ret;exact⟨⟨6,rfl,fun h=>by cases h⟩,hb1⟩
theorem isbasis2_c(r p m:Nat)(d:Int)(mod:LI)(md l:LN)(L:LI)(q:OA)(u:Nat)(w:Wo)(hF:FT p m md l)(v:GFM w w.heap.size r p m mod l (logL l (p^m)))(t:mod.length<=1000000)(x:zI w q L)(s:L.length<=9223372036854775807):
 zC 139 #[zP r,zL q L.length u,Y d] w fun e w'=>(∃b:Bool,e=.returned (.bool b)/\(b=true->degB m d=true/\L.length=m / d.toNat/\BasOk p m l d.toNat L))/\zB w w':=by
 have g:=zH (basis2_c r p m d mod md l L q u w hF v t x s);clear hF v x;go_enter func139,ntmps139;go_wp2_with fail;go_fit g.o;rintro k n ⟨⟨z,rfl,hz⟩,hb1⟩;have i:=zH hz;clear hz g;by_cases f:z=0
 . have c:=zH (i.o f);clear i;subst f;go_wp2;go_ret;exact⟨⟨true,rfl,fun _=>c.o⟩,hb1⟩
 . (have j:(z==0)=false:=by rw[beq_eq_false_iff_ne];exact f);go_wp2;go_ret;exact⟨⟨false,rfl,fun h=>by cases h⟩,hb1⟩
theorem qfH{W b:Wo}(h:zB W b):KeepsOthers W b:=⟨h.size,fun k _ hk _=>(h.block k (Array.getElem?_eq_some_iff.1 hk).1).trans hk⟩
theorem BXT.own{β:Type}{w:Wo}{b:List (List Value × TypeId)}{B:Nat}(c:w.heap.size<=B):OwnFrom B (fun(_:β) W=>BXT w b W):=fun _ _ _ _ h hg hr=>
 ⟨fun i cs t hi=>(hg.block _ (block_lt (h.box i cs t hi)) (fun e=>rowNe hr (h.box i cs t hi) e.symm)).trans (h.box i cs t hi),h.below.grown hg h.below.size (fun k e=>Nat.le_trans c (hr k e).1),Nat.le_trans h.size hg.size⟩
theorem BXT.setc{w W:Wo}{c:List (List Value × TypeId)}(h:BXT w c W)(i:Nat){f:Value}{t:TypeId}(d:c[i]?=some ([f],t))(v:Value):BXT w (c.set i ([v],t)) (W.setCell (zA (w.heap.size+i) 0) v):=by
 have b:=(List.getElem?_eq_some_iff.1 d).1;refine⟨fun j cs t2 hj=>?_,h.below.setCell (p:=(zA (w.heap.size+i) 0)) (by show w.heap.size<=w.heap.size+i;omega) _,by simpa using h.size⟩;by_cases e:j=i
 . subst e;rw[List.getElem?_set_self b] at hj;injection hj with hj;injection hj with e1 e2;rw[<- e1,<- e2];exact heap_set_same (h.box j [f] t d) 0 v
 . rw[List.getElem?_set_ne (fun e2=>e e2.symm)] at hj;exact(Below.heap_setCell W (zA (w.heap.size+i) 0) v _ (by show w.heap.size+j≠w.heap.size+i;omega)).trans (h.box j cs t2 hj)
theorem BXT.frozen{w W:Wo}{b:List (List Value × TypeId)}(h:BXT w b W){i:Nat}{cs:List Value}{t:TypeId}(c:b[i]?=some (cs,t)):W.frozen? (zA (w.heap.size+i) 0)=false:=by simp[World.frozen?,h.box i cs t c]
def NoBs(gb:Nat)(d r0 r1:Int):List (List Value × TypeId):=[([zP gb],100),([Y d],3),([Y r0],3),([Y r1],41)]
def NorPost(w:Wo)(p m:Nat)(l:LN)(d:Int)(e:Ending)(w':Wo):Prop:=
 ((∃z:Int,z≠0/\e=.returned (.tuple #[Y 0,Y z]))\/∃x:Nat,e=.returned (.tuple (D7 x))/\x<p^m/\degB m d=true/\BasOk p m l d.toNat (nz (eachL (itN (frN p m l) (d.toNat % m)) (m / d.toNat) x)))/\zB w w'
theorem normal_c(d:Int)(gb p m:Nat)(mod:LI)(md l:LN)(w:Wo)(hF:FT p m md l)(hG:GFM w w.heap.size gb p m mod l (logL l (p ^ m)))(a4:mod.length<=1000000):
 zC 184 (Ct gb d) w (NorPost w p m l d):=by
 have v:=zH<|fun W hW=>qfG gb w.heap.size p m d mod l _ W (hG.keep hW) hW.size a4 hF.small.m2
 have j:zK (BXT w (NoBs gb d 0 0) _):=((((BXT.nil w).push rfl [zP gb] 100).push U2 [Y d] 3).push U2 [Y 0] 3).push U2 [Y 0] 41;have a0:=hG.gf.1;by_cases t:degB m d=true
 . have ag := zH t;rw [t] at v;(obtain ⟨f,rfl,au,X⟩:∃ f:Nat,d=(f:Int)/\1<=f/\f<=m:=by unfold degB at t;simp only [Bool.and_eq_true,decide_eq_true_eq] at t;exact ⟨d.toNat,U0,U0,U0⟩);have ah:zK ((f:Int).toNat=f):=rfl;have av:=hF.small.q;have a1:=hF.small.m2;have a2:m / f<=m:=Nat.div_le_self _ _;(have ai:zK (∀ (W:Wo)(x:Nat),zB w W->x<p ^ m->zC 224 (Cf gb x f) W fun e w'=>(∃ g,e=.returned (zS g (m / f:Nat) (m / f:Nat))/\Row w' W.heap.size g (m / f) (nz (eachL (itN (frN p m l) (f % m)) (m / f) x)))/\zB W w'):=fun W x hW hx=>by have:=each_c (x:Int) f gb w.heap.size p m mod md l W hF (hG.keep hW) hW.size a4 au X;rw [inZ_nat hx] at this;exact this);(have A:zK (∀ (W:Wo)(g x:Nat),zB w W->Row W w.heap.size g (m / f) (nz (eachL (itN (frN p m l) (f % m)) (m / f) x))->zC 139 #[zP gb,zS g (m / f) (m / f),Y (f:Int)] W fun e w'=>(∃ b:Bool,e=.returned (.bool b)/\(b=true->BasOk p m l f (nz (eachL (itN (frN p m l) (f % m)) (m / f) x))))/\zB W w'):=fun W g x hW hr=>by have:=isbasis2_c gb p m (f:Int) mod md l (nz (eachL (itN (frN p m l) (f % m)) (m / f) x)) (zO g) (m / f) W hF ((hG.keep hW).more hW.size) a4 (hr.ints hr.lt.2) (by rw [qaA,qeW];omega);rw [qaA,qeW] at this;exact this.mono fun e w' ⟨⟨b,h1,h2⟩,h3⟩=>⟨⟨b,h1,fun hb=>(h2 hb).2.2⟩,h3⟩);(have HO:zK (∀ W,zB w W->W.cell? (zA gb 3)=some (Y ((p ^ m:Nat):Int))):=fun W hW=>by obtain ⟨_,_,_,_,_,_,_,_,h3,_,_,_,_⟩:=(hG.gf.keep hW).cells;exact h3);clear hG hF t;obtain ⟨BK,ad⟩:∃ BK:Nat->Prop,BK=fun x=>BasOk p m l f (nz (eachL (itN (frN p m l) (f % m)) (m / f) x)):=⟨_,rfl⟩;(have af:zK (∀ x,BK x->BasOk p m l f (nz (eachL (itN (frN p m l) (f % m)) (m / f) x))):=fun x h=>by rw [ad] at h;exact h);(have aa:zK (∀ (W:Wo)(g x:Nat),zB w W->Row W w.heap.size g (m / f) (nz (eachL (itN (frN p m l) (f % m)) (m / f) x))->zC 139 #[zP gb,zS g (m / f) (m / f),Y (f:Int)] W fun e w'=>(∃ b:Bool,e=.returned (.bool b)/\(b=true->BK x))/\zB W w'):=by rw [ad];exact A);clear ad A;obtain ⟨eL,ae⟩:∃ eL:Nat->LI,eL=fun x=>nz (eachL (itN (frN p m l) (f % m)) (m / f) x):=⟨_,rfl⟩;(have I:zK (∀ (W:Wo)(x:Nat),zB w W->x<p ^ m->zC 224 (Cf gb x f) W fun e w'=>(∃ g,e=.returned (zS g (m / f:Nat) (m / f:Nat))/\Row w' W.heap.size g (m / f) (eL x))/\zB W w'):=by rw [ae];exact ai);(have A:zK (∀ (W:Wo)(g x:Nat),zB w W->Row W w.heap.size g (m / f) (eL x)->zC 139 #[zP gb,zS g (m / f) (m / f),Y (f:Int)] W fun e w'=>(∃ b:Bool,e=.returned (.bool b)/\(b=true->BK x))/\zB W w'):=by rw [ae];exact aa);clear ae ai aa;(have Z:zK (∀ (e:Ending)(w':Wo),((∃ z:Int,z≠0/\e=.returned (.tuple #[Y 0,Y z]))\/∃ x:Nat,e=.returned (.tuple (D7 x))/\x<p ^ m/\BK x)->zB w w'->NorPost w p m l (f:Int) e w'):=fun e w' h hb=>by refine ⟨h.imp id ?_,hb⟩;rintro ⟨x,h1,h2,h3⟩;exact ⟨x,h1,h2,ag.o,by rw [ah.o];exact af.o x h3⟩);clear af ag ah;generalize NorPost w p m l (f:Int)=NP at *;generalize m / f=n at *;generalize p ^ m=q at *;refine (callsIn_wide (n:=3)).1 (callsIn_of_wp_marks func184 rfl trivial (wpIn_wide.2 ?_));simp only [ntmps184,List.size_toArray,List.length_cons,List.length_nil,Nat.reduceAdd,Nat.reduceSub,Array.replicate_succ,Array.replicate_zero,List.push_toArray,List.append_toArray,List.nil_append,List.cons_append];go_upto_region 1 with fail;generalize (((w.alloc (.cells #[zP gb] 100)).alloc (.cells #[Y (f:Int)] 3)).alloc (.cells #[Y 0] 3)).alloc (.cells #[Y 0] 41)=U at *;have y2:U.cell? (zA w.heap.size 0)=some (zP gb):=j.o.cell (i:=0) rfl rfl;have y3:U.cell? (zA (w.heap.size+1) 0)=some (Y (f:Int)):=j.o.cell (i:=1) rfl rfl;have H:=zH (v.o U j.o.below);go_wp2_with fail;go_fit H.o;rintro e u ⟨rfl,hb1⟩;have k:=zH (j.o.grow hb1);clear hb1 j H v y2 y3;clear U;have y2:u.cell? (zA w.heap.size 0)=some (zP gb):=k.o.cell (i:=0) rfl rfl;have aj:=zH (elements_f (zP gb) u (.inr ⟨gb,rfl⟩));go_wp2_with fail;go_fit aj.o;rintro e w4 ⟨rfl,hw4⟩;(have ao:zB u w4:=by rw [hw4];exact zV.alloc zn _);(have Q:zK (w4.cell? (zA u.heap.size 0)=some (zP gb)):=by rw [hw4];exact cell_of_row _ _ 0 _ _ _ (heap_alloc_new _ _));(have aw:u.heap.size<w4.heap.size:=by rw [hw4];simp);have a3:=k.o.below.size;have L:=zH (k.o.grow ao);have R:=zH (HO.o w4 L.o.below);clear hw4 ao aj y2 k;have ab:w.heap.size<=w4.heap.size:=U0;generalize u.heap.size=B8 at *;clear u;go_upto_region 4 with fail
   refine(wpIn_wide (n:=3)).1 (wpIn_rangeFunc_ownF (F:=Fence.wide) (n:=3) (P:=prog) (α:=Elt q) (w:=w4) (gf:=236) (lb:=#[zP B8]) rfl U0 rfl trivial (enters_of func236 U1 rfl)
    (encs:=eltV q) (Kp:=fun _ _=>True) (S:=fun _=>True) (Sp:=fun _=>True) (N:=q) (w0:=w4) (elems_stops q B8 gb av w4 aw U0 Q.o R.o) (fun _ _=>trivial) (fun _ _ _ _ _ _ _ _=>trivial) zV (fun _=>rfl)
    (fun _ W=>BXT w (NoBs gb f 0 0) W) (fun c _ W=>∃x:Nat,(c=.ret/\x<q/\BK x)/\BXT w (NoBs gb f x 0) W) (BXT.own ab) (fun c s W W' row ⟨x,hx,h⟩ hg hr=>⟨x,hx,BXT.own (β:=Unit) ab () W W' row h hg hr⟩) L.o (fun x=>{ tmps:=#[zP gb,Y (f:Int),zP w.heap.size,zP (w.heap.size+1),zP (w.heap.size+1+1),zP (w.heap.size+1+1+1),Y (x.1:Int),zP gb,Y (f:Int),.bool true,.bool false,zP gb,.func (.func 236) #[] #[zP B8],Y (x.1:Int),undef,undef,undef,undef,undef,undef,undef,undef],defers:=[] }) ?assign ?body ?done ?stop)
   case assign=>intro l x W K hK;have aq:=fun ρ o h=>Oper.semAt_some l ρ o h;simp only[eltV];gi_wp2;exact hK
   case body =>
    intro l ax x W E ay;have aq:=fun ρ o h=>Oper.semAt_some l ρ o h;obtain⟨x,hx⟩:=x;have HI:=zH E;clear E HO R Q L;(have J:=zH<|HI.o.grow zV.drew);have ac:zK (zB W W.drew):=zV.drew;refine wpIn_block ?_;apply wpIn_seq_k;intro K2 az;refine qdK 6 6 (BXT w (NoBs gb f 0 0)) [(0,0),(0,1),(1,2),(0,3),(0,5),(2,4)] default (noBar_wide.inRound l) U1 U1 U1 J.o ?_;generalize W.drew=Wd at *;simp only[List.map_cons,List.map_nil,List.getD_cons_zero,List.getD_cons_succ]
    iterate 2
     apply qbF rfl
     . intro V hV
       have y:V.cell? (zA w.heap.size 0)=some (zP gb):=hV.cell (i:=0) rfl rfl
       go_simp
       rfl
     go_simp
    apply qaM rfl
    . intro V;go_simp;rfl
    go_simp
    iterate 2
     apply qbF rfl
     . intro V hV
       have y:V.cell? (zA (w.heap.size+1) 0)=some (Y (f:Int)):=hV.cell (i:=1) rfl rfl
       go_simp
       rfl
     go_simp
    apply qbE rfl
    . go_simp;exact⟨rfl,rfl⟩
    (with_reducible refine(I.o Wd x J.o.below hx).mono ?_);rintro e W2 ⟨⟨g,rfl,hrow⟩,O⟩;have T:=zH (J.o.grow O);(have an:=zH<|hrow.base (Nat.le_trans J.o.below.size hrow.lt.1));(have ak:=zH<|qfH (ac.o.trans (O.mono ac.o.size)));refine⟨_,rfl,T.o,?_⟩;go_simp;refine qbH ?_;show wpListIn _ _ _ _ _ _ _ _;clear hrow O;have HC:=zH (A.o W2 g x T.o.below an.o);clear an J ac;gi_wp2;(try refine⟨trivial,?_⟩);refine(CallsIn.inRound l (callsIn_wide.2 HC.o)).mono ?_;rintro e W3 ⟨⟨b,rfl,hbb⟩,hb3⟩;have C:=zH (T.o.grow hb3);(have al:=zH<|ak.o.trans (qfH hb3));have ar:=zH hbb;clear hbb hb3 HC T ak;cases b
    . gi_wp2;exact⟨al.o,trivial,C.o⟩
    . have y4:W3.cell? (zA (w.heap.size+1+1) 0)=some (Y 0):=C.o.cell (i:=2) rfl rfl;have y5:W3.cell? (zA (w.heap.size+1+1+1) 0)=some (Y 0):=C.o.cell (i:=3) rfl rfl;have f4:W3.frozen? (zA (w.heap.size+1+1) 0)=false:=C.o.frozen (i:=2) rfl;have f5:W3.frozen? (zA (w.heap.size+1+1+1) 0)=false:=C.o.frozen (i:=3) rfl;have O:=ar.o rfl;gi_wp2;exact⟨al.o.trans ((KeepsOthers.setCell _ _ _).trans (KeepsOthers.setCell _ _ _)),x,⟨rfl,hx,O⟩,(C.o.setc 2 rfl (Y (x:Int))).setc 3 rfl (Y 0)⟩
   case done=>
    intro D xs W hD _ E hd;have HX:=zH E;have y4:W.cell? (zA (w.heap.size+1+1) 0)=some (Y 0):=E.cell (i:=2) rfl rfl;have y5:W.cell? (zA (w.heap.size+1+1+1) 0)=some (Y 0):=E.cell (i:=3) rfl rfl;have f4:W.frozen? (zA (w.heap.size+1+1) 0)=false:=E.frozen (i:=2) rfl;have f5:W.frozen? (zA (w.heap.size+1+1+1) 0)=false:=E.frozen (i:=3) rfl;have HY:zK (BXT w (NoBs gb f 0 11) ((W.setCell (zA (w.heap.size+1+1) 0) (Y 0)).setCell (zA (w.heap.size+1+1+1) 0) (Y 11))):=(HX.o.setc 2 rfl (Y 0)).setc 3 rfl (Y 11);have X:((W.setCell (zA (w.heap.size+1+1) 0) (Y 0)).setCell (zA (w.heap.size+1+1+1) 0) (Y 11)).heap[D]?=some (.deferred (some [])):=((KeepsOthers.setCell W _ _).trans (KeepsOthers.setCell _ _ _)).same D _ hd rfl
    have M:zK (BXT w (NoBs gb f 0 11) (((W.setCell (zA (w.heap.size+1+1) 0) (Y 0)).setCell (zA (w.heap.size+1+1+1) 0) (Y 11)).putObj D (.deferred none))):=
     BXT.own (β:=Unit) (B:=w.heap.size) zn () _ _ (some D) HY.o (grownBy_putObj' _ D _) (fun r e=>by cases e;exact⟨U0,_,X,rfl⟩)
    clear E I A HO R Q L HX HY;go_wp2_with fail;refine⟨U2,.inl ⟨_,_,rfl,run_takeDeferred X,?_⟩⟩;exact⟨_,qfD rfl _ _ (w.heap.size+1+1) (w.heap.size+1+1+1) _ _ rfl rfl (M.o.cell (i:=2) rfl rfl) (M.o.cell (i:=3) rfl rfl),Z.o _ _ (.inl ⟨11,dc,rfl⟩) M.o.below⟩
   case stop=>
    rintro D c ax W hD _ ⟨x,⟨rfl,hx,hbk⟩,E⟩ hd
    have M:zK (BXT w (NoBs gb f x 0) (W.putObj D (.deferred none))):=
     BXT.own (β:=Unit) (B:=w.heap.size) zn () _ _ (some D) E (grownBy_putObj' _ D _) (fun r e=>by cases e;exact⟨U0,_,hd,rfl⟩)
    clear E I A HO R Q L;gi_wp2;refine⟨U2,.inl ⟨_,_,rfl,run_takeDeferred hd,?_⟩⟩;exact⟨_,qfD rfl _ _ (w.heap.size+1+1) (w.heap.size+1+1+1) _ _ rfl rfl (M.o.cell (i:=2) rfl rfl) (M.o.cell (i:=3) rfl rfl),Z.o _ _ (.inr ⟨x,rfl,hx,hbk⟩) M.o.below⟩
 . (have ap:degB m d=false:=by simpa using t);rw[ap] at v;clear t ap hG hF;go_enter func184,ntmps184;go_upto_region 1 with fail;generalize (((w.alloc (.cells #[zP gb] 100)).alloc (.cells #[Y d] 3)).alloc (.cells #[Y 0] 3)).alloc (.cells #[Y 0] 41)=U at *;have y2:U.cell? (zA w.heap.size 0)=some (zP gb):=j.o.cell (i:=0) rfl rfl;have y3:U.cell? (zA (w.heap.size+1) 0)=some (Y d):=j.o.cell (i:=1) rfl rfl;have H:=zH (v.o U j.o.below);go_wp2_with fail;go_fit H.o;rintro e u ⟨rfl,hb1⟩;have k:=zH (j.o.grow hb1);clear hb1 j H v y2 y3;clear U;have y4:u.cell? (zA (w.heap.size+1+1) 0)=some (Y 0):=k.o.cell (i:=2) rfl rfl;have y5:u.cell? (zA (w.heap.size+1+1+1) 0)=some (Y 0):=k.o.cell (i:=3) rfl rfl;have f4:u.frozen? (zA (w.heap.size+1+1) 0)=false:=k.o.frozen (i:=2) rfl;have f5:u.frozen? (zA (w.heap.size+1+1+1) 0)=false:=k.o.frozen (i:=3) rfl;have M:zK (BXT w (NoBs gb d 0 6) ((u.setCell (zA (w.heap.size+1+1) 0) (Y 0)).setCell (zA (w.heap.size+1+1+1) 0) (Y 6))):=(k.o.setc 2 rfl (Y 0)).setc 3 rfl (Y 6);go_wp2_with fail;refine bodyPost_ret (qfD rfl _ _ (w.heap.size+1+1) (w.heap.size+1+1+1) _ _ rfl rfl (M.o.cell (i:=2) rfl rfl) (M.o.cell (i:=3) rfl rfl)) rfl ?_;exact⟨.inl ⟨6,dc,rfl⟩,M.o.below⟩
end Go.Proofs.YtocbdafcolbfeaaGreat
