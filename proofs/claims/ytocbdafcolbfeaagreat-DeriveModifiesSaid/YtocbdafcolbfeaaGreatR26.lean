/- Parts of the proof. -/
import Derived.Test.YtocbdafcolbfeaaGreatR22
import Derived.Test.YtocbdafcolbfeaaGreatR25
set_option maxRecDepth 100000
set_option maxHeartbeats 8000000
namespace Go.Proofs.YtocbdafcolbfeaaGreat
open Go.RowKit Pln Go.Proofs.Tryz
def SetK(n:Int)(zs:LI)(k:Nat):Prop:=∀t,t<k->0<=zs.getD t 0/\zs.getD t 0<n/\∀s,s+1=t->zs.getD s 0<zs.getD t 0
theorem SetK.step{n:Int}{zs:LI}{k:Nat}(h:SetK n zs k)(b:0<=zs.getD k 0)(c:zs.getD k 0<n)(d:∀s,s+1=k->zs.getD s 0<zs.getD k 0):SetK n zs (k+1):=fun t ht=>by
 by_cases e:t=k
 . subst e;exact⟨b,c,d⟩
 . exact h t U0
def SetPost(w:Wo)(n:Int)(zs:LI)(e:Ending)(w':Wo):Prop:=∃b,e=.returned (.bool b)/\w'=w/\(b=true->SetK n zs zs.length)
theorem mset_any(n:Int)(zs:LI)(A:OA)(ca:Nat)(w:Wo)(E:zI w A zs)(H:zs.length<=9223372036854775807):
 zC 177 (D6 A zs.length ca n) w (SetPost w n zs):=by
 have q:=zH E;clear E;go_enter func177,ntmps177;go_wp2;go_loopw [9] (fun v9 wr=>∃k:Nat,k<=zs.length/\v9=Y k/\wr=w/\SetK n zs k) (fun v9 _=>zs.length-(intOf v9).toNat);case atStart=>exact⟨0,U0,rfl,rfl,fun t ht=>U0⟩
 case round =>
  obtain⟨k,C,rfl,rfl,d⟩:=hrel;have c:=zH d;clear d;by_cases l:k<zs.length
  . obtain ⟨b,o,rfl,B,r⟩ := q.o.at_ l;(have f:=zH<|c.o.step);by_cases i:k=0
    . subst i;rw [Nat.add_zero] at r;generalize zs.getD 0 0=x at *;by_cases m:x<0
      . go_wp2;go_ret;exact⟨false,rfl,rfl,fun h=>by cases h⟩
      . by_cases p : n <= x
        . go_wp2;go_ret;exact⟨false,rfl,rfl,fun h=>by cases h⟩
        . go_wp2;go_roundw;case rel=>exact⟨1,U0,gn,trivial,f.o U0 U0 fun s hs=>U0⟩
          case measure=>simp[intOf];omega
    . obtain ⟨j,rfl⟩ : ∃ j,k = j + 1 := ⟨k - 1,U0⟩;obtain ⟨z,D,e,_,u⟩:=q.o.at_ (k:=j) U0;injection e with e;injection e with e1 e2;subst e1 e2;(have g:=zH<|fun h1 h2 h3=>f.o h1 h2 fun s hs=>by obtain rfl:s=j:=U0;exact h3);clear f;generalize zs.getD (j+1) 0=x at *;generalize zs.getD j 0=y at *;by_cases m:x<0
      . go_wp2;go_ret;exact⟨false,rfl,rfl,fun h=>by cases h⟩
      . by_cases p : n <= x
        . go_wp2;go_ret;exact⟨false,rfl,rfl,fun h=>by cases h⟩
        . by_cases v : x <= y
          . go_wp2;go_ret;exact⟨false,rfl,rfl,fun h=>by cases h⟩
          . go_wp2;go_roundw;case rel=>exact⟨j+1+1,U0,gn,trivial,g.o U0 U0 U0⟩
            case measure=>simp[intOf];omega
  . (obtain rfl:k=zs.length:=by omega);go_wp2;go_ret;exact⟨true,rfl,rfl,fun _=>c.o⟩
theorem positions_any(p m:Int)(mod:LI)(D:OA)(E:Nat)(N:Int)(C:List LI)(A:OA)(c:Nat)(zs:LI)(H:OA)(cs:Nat)(w:Wo)(L:zI w D mod)(P:mod.length<=9223372036854775807)(K:zR w A C)(J:C.length<=9223372036854775807)(M:zI w H zs)(I:zs.length<=9223372036854775807)(O:codeZ p m mod N C=0):
 zC 125 #[C8 p m D mod.length E N A C.length c,zL H zs.length cs] w fun e w'=>(∃z:Int,e=.returned (Y z)/\(z=0->SetK N zs zs.length/\(zs.length:Int)≠N))/\zB w w':=by
 have f:zK (SBoxC w (C2 p m D mod.length E N A C.length c) (w.alloc (C4 p m D mod.length E N A C.length c))):=
  ⟨heap_alloc_new _ _,zV.alloc zn _,U2⟩
 have r:=zH L;have q:=zH K;have t:=zH M;have u:=zH O;clear L K M O;go_enter func125,ntmps125;go_upto_region 1 with fail;generalize w.alloc (C4 p m D mod.length E N A C.length c)=v at *;have g:=zH f.o.range;have i:=zH (codecheck_c p m mod D E N C A c v ((r.o.keep f.o.2.1).more f.o.2.1.size) P ((q.o.keep f.o.2.1).more f.o.2.1.size) J);rw[u.o] at i;go_wp2_with (refine wpList_load_mid rfl 32 (.tmp 2) rfl w.heap.size 0 rfl (C2 p m D mod.length E N A C.length c) _ g.o underlying32 rfl codeSize ?_);go_fit i.o;rintro e n ⟨rfl,hb1⟩;have d:=zH (f.o.grow hb1);have k:=zH (mset_any N zs H cs n ((t.o.keep d.o.2.1).more d.o.2.1.size) I);have B:n.cell? (zA w.heap.size 3)=some (Y N):=cell_of_row _ _ 3 _ _ _ d.o.1;clear hb1 i g;go_wp2_with fail;go_fit k.o;rintro e y ⟨b,rfl,rfl,hb⟩;have l:=zH<|hb
 clear hb;rcases Bool.eq_false_or_eq_true b with hbt|hbt;rotate_left
 . subst hbt;go_wp2;go_ret;exact⟨⟨6,rfl,fun h=>by cases h⟩,d.o.2.1⟩
 . (have j:=zH<|l.o hbt);clear l;subst hbt;by_cases x:(zs.length:Int)=N
   . go_wp2;go_ret;exact⟨⟨4,rfl,fun h=>by cases h⟩,d.o.2.1⟩
   . have s:=zH x;go_wp2;go_ret;exact⟨⟨0,rfl,fun _=>⟨j.o,s.o⟩⟩,d.o.2.1⟩
theorem keepA_c(p m:Int)(mod:LI)(Am:OA)(cm:Nat)(cols:Nat)(rows:LL)(A:OA)(c:Nat)(l:LN)(As:OA)(cs:Nat)(w:Wo)(hM:zI w Am mod)(hl:mod.length<=1000000)(an:l.length<=1000000)(hA:zR w A (nzs rows))(hS:zI w As (nz l))(e0:errC p m mod cols (nzs rows)=0)(al:0<(freeC l cols).length)(e1:errC p m mod (freeC l cols).length (nzs (colsM rows (freeC l cols)))=0)(hN:lengthZ ((freeC l cols).length:Int)=0):
 zC 126 #[C7 p m Am mod.length cm,Co cols A rows.length c,zL As l.length cs] w (NewPostA w p m mod (freeC l cols).length (canonM (opsT p.toNat m.toNat (lOf p m mod)) (colsM rows (freeC l cols)) (freeC l cols).length)):=by
 obtain⟨_,_,D,_,ah,hn⟩:=errC_grid e0;rw[Int.toNat_natCast] at D;have g:zK (BoxC w (C5 p m Am mod.length cm) (Cn cols A rows.length c) (Cd) (((w.alloc (C3 p m Am mod.length cm)).alloc (Cb cols A rows.length c)).alloc (Ca))):=boxC w _ _ _;have HM:=zH hM;have HA:=zH hA;have HS:=zH hS;have Q:=zH e0;have S:=zH e1;have HN:=zH hN;have U:=zH D;have ai:=freeC_le l cols;have T:zK (∀j∈freeC l cols,(j:Int)<(cols:Int)):=fun j hj=>by have:=(List.mem_filter.1 hj).1;simp at this;omega
 clear hM hA hS e0 e1 hN D
 have B:zK (∀W,LSt ((((w.alloc (C3 p m Am mod.length cm)).alloc (Cb cols A rows.length c)).alloc (Ca))) W->zC 129 (D6 As l.length cs cols) W fun e w'=>(∃VA ck,e=.returned (zL VA (freeC l cols).length ck)/\IntsUp w' W.heap.size VA (nz (freeC l cols)))/\zB W w'):=fun W q=>
  rest_c l cols As cs W ((HS.o.keep (g.o.below.trans (Below.mono q g.o.below.size))).more (Nat.le_trans g.o.below.size q.size)) U0 U0
 generalize freeC l cols=b at *;go_enter func126,ntmps126;go_upto_region 1 with fail;generalize ((w.alloc (C3 p m Am mod.length cm)).alloc (Cb cols A rows.length c)).alloc (Ca)=v at *;have ab:zK (∀W,LSt v W->W.rangeAt w.heap.size 0 (C5 p m Am mod.length cm)):=fun W q=>qeS (g.o.keep q).k0;have ac:zK (∀W,LSt v W->W.rangeAt (w.heap.size+1) 0 (Cn cols A rows.length c)):=fun W q=>qeS (g.o.keep q).k1;have O:zK (∀W,LSt v W->W.cell? (zA (w.heap.size+1) 0)=some (Y (cols:Int))):=fun W q=>cell_of_row _ _ 0 _ _ _ (g.o.keep q).k1;have C:zK (LSt v v.drew):=zV.drew;refine qaS 11 10 (LSt v) [(0,0),(0,1),(0,2),(0,3),(0,4),(2,5),(2,6),(0,7),(0,8),(1,9),(3,10)] default U1 U1 (fun _ _ d _ _ h=>by cases d<;>exact h) C.o ?_;simp only[List.map_cons,List.map_nil,List.getD_cons_zero,List.getD_cons_succ];refine qaT rfl 29 (.tmp 3) rfl w.heap.size 0 rfl (C5 p m Am mod.length cm) _ ab.o underlying29 rfl fieldSize ?_;go_simp;refine qaT rfl 54 (.tmp 4) rfl (w.heap.size+1) 0 rfl (Cn cols A rows.length c) _ ac.o underlying54 rfl matSize ?_;go_simp
 iterate 3
  apply qbF rfl
  . intro W q
    have z0:=O.o W q
    go_simp
    rfl
  go_simp
 apply qbE rfl
 . go_simp;exact⟨rfl,rfl⟩
 with_reducible refine(B.o _ C.o).mono ?_
 rintro e N ⟨⟨VA,ck,rfl,hu⟩,hb1⟩;have f:zK (LSt v N):=C.o.trans hb1;have HU:=zH hu.ints;refine⟨_,rfl,f.o,?_⟩;go_simp;clear hu hb1;have L:=Nat.le_trans g.o.below.size f.o.size;have H:=zH<|g.o.below.trans (Below.mono f.o g.o.below.size)
 have HC:=zH <|
  columns_c p m mod Am cm cols rows A c b VA ck N ((HM.o.keep H.o).more L) U0 ((HA.o.keep H.o).more L) hn HU.o Q.o T.o al U0 (fun r hr=>by rw[(U.o.2 r hr).1]) U0
 apply qbE rfl
 . go_simp;exact⟨rfl,rfl⟩
 with_reducible refine HC.o.mono ?_
 rintro e w2 s;obtain⟨⟨x,c1,rfl,M⟩,K⟩:=s.len (colsM_len rows b);have y:zK (LSt v w2):=f.o.trans (K.mono f.o.size);refine⟨_,rfl,y.o,?_⟩;go_simp
 iterate 2
  apply qbF rfl
  . intro W q
    go_simp
    rfl
  go_simp
 apply qaM rfl
 . intro W;go_simp;rfl
 go_simp;have I:=zH (g.o.keep y.o);have V:=zH I.o.k1;have i:=zH (I.o.setA (Cn (b.length:Int) x rows.length c1));have aj:=g.o.size;have ak:=f.o.size;have ae:w.heap.size+1<N.heap.size:=U0;have Z:zK (RowsUp (w2.setRow (w.heap.size+1) (Cn (b.length:Int) x rows.length c1).toArray) N.heap.size x (nzs (colsM rows b))):=M.setRow ae _;clear s M K HC HU;refine qcA rfl 54 (.tmp 4) (.tmp 17) rfl (w.heap.size+1) 54 (Cz cols A rows.length c) (Cz (b.length:Int) x rows.length c1) rfl rfl V.o matSize rfl U3 ?_;go_simp;refine qbH ?_;have ag:=Nat.le_trans g.o.below.size y.o.size;have E:=zH<|i.o.below
 go_upto_region 4 with fail;generalize w2.setRow (w.heap.size+1) (Cz (b.length:Int) x rows.length c1)=w3 at *;have t:=zH<|qeS i.o.k0
 have u:=zH<|qeS i.o.k1
 have z:=zH (new_any p m mod Am cm b.length (colsM rows b) x c1 w3 ((HM.o.keep E.o).more E.o.size) hl Z.o.rowsAt al S.o HN.o);rw[colsM_len] at z;go_wp2_with (first|(refine wpList_load_mid rfl 29 (.tmp 3) rfl w.heap.size 0 rfl (C5 p m Am mod.length cm) _ t.o underlying29 rfl fieldSize ?_)|(refine wpList_load_mid rfl 54 (.tmp 4) rfl (w.heap.size+1) 0 rfl (Cn (b.length:Int) x rows.length c1) _ u.o underlying54 rfl matSize ?_));go_fit z.o;rintro e w4 ⟨⟨Ag,c',R,k,rfl,hu4,hr4⟩,hb4⟩;generalize canonM (opsT p.toNat m.toNat (lOf p m mod)) (colsM rows b) b.length=n at *;have J:=zH (i.o.keep hb4);have X:=zH J.o.k2;have HY:=zH (J.o.set (C2 p m Ag mod.length c' (b.length:Int) R n.length k));have ad:=zH hu4;have aa:=zH hr4;have af:=i.o.size;clear hu4 hr4 hb4 z t u;go_wp2_with (refine wpList_store_row rfl 32 (.tmp 6) (.tmp 26) rfl w4 (w.heap.size+1+1) 32 (C6) (Cc p m Ag mod.length c' (b.length:Int) R n.length k) rfl rfl X.o codeSize rfl U3 ?_);refine bodyPost_ret (results_row_one (P:=prog) rfl _ _ (w.heap.size+1+1) 32 (Cc p m Ag mod.length c' (b.length:Int) R n.length k) (0,0) _ _ rfl rfl HY.o.k2 underlying32 rfl codeSize) rfl ?_;refine⟨⟨Ag,c',_,_,rfl,?_,?_⟩,HY.o.below⟩
 . have h1:IntsUp (w4.setRow (w.heap.size+1+1) (Cc p m Ag mod.length c' (b.length:Int) R n.length k)) (w3.heap.size+1+1+1) Ag mod:=ad.o.of_blocks U2 fun k hk _=>setRow_other w4 (w.heap.size+1+1) k _ U0;exact h1.lower U0
 . have h1:=aa.o.setRow (show w.heap.size+1+1<w3.heap.size+1+1+1 by omega) (Cc p m Ag mod.length c' (b.length:Int) R n.length k);exact h1.lower U0
end Go.Proofs.YtocbdafcolbfeaaGreat
namespace Go.Proofs.YtocbdafcolbfeaaGreat
open Pln
namespace Al
section
variable {q:Nat} {O:Ops} {h:Fld q O}
theorem qcT{u v:LN}{j:Nat}(b:j<u.length):wd h (u++v) j=wd h u j:=by unfold wd;congr 1;simp only[List.getD];rw[List.getElem?_append_left b]
theorem wd_app_r{u v:LN}(j:Nat):wd h (u++v) (u.length+j)=wd h v j:=by unfold wd;congr 1;simp only[List.getD];rw[List.getElem?_append_right U0,Nat.add_sub_cancel_left]
end
end Al
namespace Al
theorem ns_pick(n c:Nat)(u:Nat->Nat):ns n (fun i=>if c=i then u i else 0)<=u c:=by
 induction n with
 |zero=>exact Nat.zero_le _
 |succ n ih=>
  show ns n (fun i=>if c=i then u i else 0)+(if c=n then u n else 0)<=u c;by_cases e:c=n
  . subst e;rw[if_pos rfl,ns_zero fun j hj=>if_neg U0];omega
  . rw[if_neg e];exact ih
theorem ns_pick_eq{n c:Nat}(b:c<n)(u:Nat->Nat):ns n (fun i=>if c=i then u i else 0)=u c:=by refine Nat.le_antisymm (ns_pick n c u) ?_;have:=ns_at (f:=fun i=>if c=i then u i else 0) b;simpa using this
theorem ns_cover{n N:Nat}{P:Nat->Nat}{l:LN}(u:Nat->Nat)(o:∀i,i<n->(∃t,t<l.length/\l.getD t 0=i)\/∃j,j<N/\P j=i):
 ns n u<=ns N (fun j=>u (P j))+ns l.length (fun t=>u (l.getD t 0)):=by
 have d:ns n u<=ns n (fun i=>ns N (fun j=>if P j=i then u i else 0)+ns l.length (fun t=>if l.getD t 0=i then u i else 0)):=ns_le fun i hi=>by
  rcases o i hi with⟨t,m,e⟩|⟨j,k,e⟩
  . have b:=ns_at (f:=fun t=>if l.getD t 0=i then u i else 0) m;have c:(if l.getD t 0=i then u i else 0)=u i:=if_pos e;have h:=Nat.le_trans (Nat.le_of_eq c.symm) b;omega
  . have b:=ns_at (f:=fun j=>if P j=i then u i else 0) k;have c:(if P j=i then u i else 0)=u i:=if_pos e;have h:=Nat.le_trans (Nat.le_of_eq c.symm) b;omega
 rw[ns_add,ns_swap n N fun j i=>if P j=i then u i else 0,ns_swap n l.length fun t i=>if l.getD t 0=i then u i else 0] at d;have b:=ns_le (n:=N) (f:=fun j=>ns n fun i=>if P j=i then u i else 0) (g:=fun j=>u (P j)) fun j _=>ns_pick n (P j) u;have c:=ns_le (n:=l.length) (f:=fun t=>ns n fun i=>if l.getD t 0=i then u i else 0) (g:=fun t=>u (l.getD t 0)) fun t _=>ns_pick n _ u;omega
theorem ns_inj{n N:Nat}{P:Nat->Nat}(u:Nat->Nat)(m:∀ j,j<N->P j<n)(l:∀ i j,i<j->j<N->P i≠P j):ns N (fun j=>u (P j))<=ns n u:=by
 have f:ns N (fun j=>u (P j))<=ns N fun j=>ns n fun i=>if P j=i then u i else 0:=ns_le fun j b=>by rw[ns_pick_eq (m j b)];exact Nat.le_refl _
 rw[ns_swap N n fun i j=>if P j=i then u i else 0] at f;refine Nat.le_trans f (ns_le fun i _=>?_);by_cases g:∃j,j<N/\P j=i
 . obtain ⟨j,b,e⟩ := g;have h:ns N (fun k=>if P k=i then u i else 0)=ns N fun k=>if j=k then u i else 0:=qfK fun k hk=>by
    by_cases c:j=k
    . subst c;rw[if_pos e,if_pos rfl]
    . rw[if_neg c,if_neg];intro d;rcases Nat.lt_or_ge j k with h3|h3
      . exact l j k h3 hk (e.trans d.symm)
      . exact l k j U0 b (d.trans e.symm)
   rw[h];exact ns_pick N j fun _=>u i
 . rw[ns_zero fun j b=>if_neg fun e=>g ⟨j,b,e⟩];exact Nat.zero_le _
theorem ns_one(n:Nat):ns n (fun _=>1)=n:=by
 induction n with
 |zero=>rfl
 |succ n ih=>show ns n (fun _=>1)+1=n+1;rw[ih]
theorem ns_full{n:Nat}{u:Nat->Nat}(g:∀j,j<n->u j<=1)(h:n<=ns n u):∀j,j<n->u j=1:=by
 induction n with
 |zero=>intro j b;omega
 |succ n ih=>
  have d:n+1<=ns n u+u n:=h;have c:ns n u<=ns n fun _=>1:=ns_le fun j b=>g j U0;rw[ns_one] at c;have f:=g n U0;intro j b;by_cases e:j=n
  . subst e;omega
  . exact ih (fun j b=>g j U0) U0 j U0
theorem inj_surj{n:Nat}{P:Nat->Nat}(g:∀j,j<n->P j<n)(h:∀i j,i<j->j<n->P i≠P j){i:Nat}(f:i<n):∃j,j<n/\P j=i:=by have b:=ns_inj (fun i=>if ∃j,j<n/\P j=i then 1 else 0) g h;have c:ns n (fun j=>if ∃k,k<n/\P k=P j then 1 else 0)=ns n fun _=>1:=qfK fun j hj=>if_pos ⟨j,hj,rfl⟩;rw[c,ns_one] at b;have d:=ns_full (u:=fun i=>if ∃j,j<n/\P j=i then 1 else 0) (fun j _=>by split<;>omega) b i f;exact Classical.byContradiction fun hn=>by simp only[if_neg hn] at d;omega
section
variable {q:Nat} {O:Ops} {h:Fld q O}
theorem ind_le(x:El q O h):(if x.n=0 then 0 else 1)<=1:=by split<;>omega
def QPos(h:Fld q O)(n N:Nat)(A:LL)(P:Nat->Nat)(l:LN)(f:Nat->El q O h):Prop:=∃g,InC h n A g/\(∀t,t<l.length->g (l.getD t 0)=0)/\∀j,j<N->f j=g (P j)
theorem qPos_lin(n N:Nat)(A:LL)(P:Nat->Nat)(l:LN):LinF q O h (QPos h n N A P l) where
 zero:=⟨fun _=>0,(inC_lin n A).zero,fun _ _=>rfl,fun _ _=>rfl⟩
 step f g a:=by
  have H:=El.fd (h:=h)
  rintro⟨b,d,i,k⟩ ⟨c,m,o,p⟩
  refine⟨fun j=>b j+a*c j,(inC_lin n A).step _ _ a d m,fun t ht=>?_,fun j hj=>?_⟩
  . show b _ + a * c _ = 0
    rw[i t ht,o t ht,H.mulZ,H.addZ]
  . show f j + a * g j = _
    rw[k j hj,p j hj]
theorem pun_law{n N low:Nat}{A:LL}{P:Nat->Nat}{l:LN}(p:∀j,j<N->P j<n)(r:∀i,i<n->(∃t,t<l.length/\l.getD t 0=i)\/∃j,j<N/\P j=i)(o:MinW h n A low){f:Nat->El q O h}(s:QPos h n N A P [] f):wf N f=0\/low<=wf N f+l.length:=by
 obtain⟨g,c,_,b⟩:=s;rcases o g c with h3|h3
 . exact .inl (qcW fun j hj=>by rw[b j hj];exact h3 _ (p j hj))
 . right;have k:=ns_cover (fun j=>if(g j).n=0 then 0 else 1) r;have d:=ns_le (n:=l.length) (f:=fun t=>if(g (l.getD t 0)).n=0 then 0 else 1) (g:=fun _=>1) fun t _=>ind_le _;rw[ns_one] at d;(have m:wf N f=ns N fun j=>if(g (P j)).n=0 then 0 else 1:=qfK fun j hj=>by rw[b j hj]);unfold wf at h3;omega
theorem sho_law{n N low:Nat}{A:LL}{P:Nat->Nat}{l:LN}(r:∀j,j<N->P j<n)(s:∀i,i<n->(∃t,t<l.length/\l.getD t 0=i)\/∃j,j<N/\P j=i)(p:MinW h n A low){f:Nat->El q O h}(u:QPos h n N A P l f):wf N f=0\/low<=wf N f:=by
 obtain⟨g,c,d,b⟩:=u;rcases p g c with h3|h3
 . exact .inl (qcW fun j hj=>by rw[b j hj];exact h3 _ (r j hj))
 . right;have k:=ns_cover (fun j=>if(g j).n=0 then 0 else 1) s;(have m:ns l.length (fun t=>if(g (l.getD t 0)).n=0 then 0 else 1)=0:=ns_zero fun t ht=>by rw[if_pos];rw[d t ht];rfl);(have o:wf N f=ns N fun j=>if(g (P j)).n=0 then 0 else 1:=qfK fun j hj=>by rw[b j hj]);unfold wf at h3;omega
def QExt(h:Fld q O)(n:Nat)(A:LL)(f:Nat->El q O h):Prop:=InC h n A f/\sm (n+1) f=0
theorem qExt_lin(n:Nat)(A:LL):LinF q O h (QExt h n A) where
 zero:=⟨(inC_lin n A).zero,(El.fd (h:=h)).sm_zero fun _ _=>rfl⟩
 step f g a hf hg:=⟨(inC_lin n A).step f g a hf.1 hg.1,by
  have H:=El.fd (h:=h)
  rw[H.sm_lin,hf.2,hg.2,H.mulZ,H.addZ]⟩
theorem wf_succ(n:Nat)(f:Nat->El q O h):wf (n+1) f=wf n f+if(f n).n=0 then 0 else 1:=rfl
theorem ext_zero{n:Nat}{f:Nat->El q O h}(d:sm (n+1) f=0)(c:∀j,j<n->f j=0):wf (n+1) f=0:=by have H:=El.fd (h:=h);have b:sm n f+f n=0:=d;rw[H.sm_zero c,H.addZ] at b;rw[wf_succ,qcW c,b];rfl
theorem ext_law{n low:Nat}{A:LL}(c:MinW h n A low){f:Nat->El q O h}(b:QExt h n A f):wf (n+1) f=0\/low<=wf (n+1) f:=by
 rcases c f b.1 with h3|h3
 . exact .inl (ext_zero b.2 h3)
 . right;rw[wf_succ];omega
theorem two_one(c:q=2):(1:El q O h)+1=0:=by have H:=El.fd (h:=h);refine El.n_zero.1 ?_;have b:=((1:El q O h)+1).lt;refine Classical.byContradiction fun hne=>H.ne ?_;refine H.cancel (x:=(1:El q O h)) ?_;rw[H.zadd];refine El.eq ?_;show _=(1:Nat);omega
theorem par_sm(g:q=2)(f:Nat->El q O h):∀ n,sm n f=if wf n f % 2=0 then 0 else 1
 |0=>rfl
 | n + 1 => by
   have H:=El.fd (h:=h)
   show sm n f+f n=_
   rw[par_sm g f n,wf_succ]
   by_cases b:(f n).n=0
   . rw[if_pos b,El.n_zero.1 b,H.zadd]
     rfl
   . have d : f n = 1:=El.eq (by have:=(f n).lt;show _ = (1 : Nat);omega)
     rw[if_neg b,d]
     by_cases c:wf n f % 2=0
     . rw[if_pos c,if_neg U0,H.addZ]
     . rw[if_neg c,if_pos U0,two_one g]
theorem ext_law2{n low:Nat}{A:LL}(i:q=2)(j:low % 2=1)(g:MinW h n A low){f:Nat->El q O h}(d:QExt h n A f):wf (n+1) f=0\/low+1<=wf (n+1) f:=by
 rcases ext_law g d with h1|h1
 . exact .inl h1
 . right;have b:=par_sm i f (n+1);rw[d.2] at b;by_cases c:wf (n+1) f % 2=0
   . omega
   . rw[if_neg c] at b;exact((El.fd (h:=h)).ne b.symm).elim
def QInt(h:Fld q O)(n d:Nat)(A:LL)(f:Nat->El q O h):Prop:=∀k,k<d->InC h n A fun i=>f (i*d+k)
theorem qInt_lin(n d:Nat)(A:LL):LinF q O h (QInt h n d A) where
 zero:=fun _ _=>(inC_lin n A).zero
 step _ _ a hf hg:=fun k hk=>(inC_lin n A).step _ _ a (hf k hk) (hg k hk)
theorem int_law{n d low:Nat}{A:LL}(j:MinW h n A low){f:Nat->El q O h}(l:QInt h n d A f):wf (n*d) f=0\/low<=wf (n*d) f:=by
 have e:wf (n*d) f=ns d fun k=>wf n fun i=>f (i*d+k):=by rw[wf_blocks];exact ns_swap n d fun k i=>if(f (i*d+k)).n=0 then 0 else 1
 by_cases g:∀k,k<d->∀i,i<n->f (i*d+k)=0
 . left;rw[e];exact ns_zero fun k b=>qcW (g k b)
 . right;obtain⟨k,b⟩:=Classical.not_forall.1 g;obtain⟨b,c⟩:=Classical.not_imp.1 b;rcases j _ (l k b) with h1|h1
   . exact(c h1).elim
   . rw[e];exact Nat.le_trans h1 (ns_at (f:=fun k=>wf n fun i=>f (i*d+k)) b)
structure Aut (h:Fld q O) (φ:El q O h->El q O h):Prop where
 add:∀x y,φ (x+y)=φ x+φ y
 mul:∀x y,φ (x*y)=φ x*φ y
 zero:φ 0=0
 inj:∀x,φ x=0->x=0
 onto:∀y,∃x,φ x=y
def QMap(h:Fld q O)(n:Nat)(A:LL)(P:Nat->Nat)(s:Nat->El q O h)(φ:El q O h->El q O h)(f:Nat->El q O h):Prop:=∃g,InC h n A g/\∀i,i<n->f (P i)=s i*φ (g i)
theorem qMap_lin(n:Nat)(A:LL)(P:Nat->Nat)(s:Nat->El q O h){φ:El q O h->El q O h}(hφ:Aut h φ):LinF q O h (QMap h n A P s φ) where
 zero:=⟨fun _=>0,(inC_lin n A).zero,fun i _=>by rw[hφ.zero,(El.fd (h:=h)).mulZ]⟩
 step f g a:=by
  have H:=El.fd (h:=h)
  rintro⟨c,k,l⟩ ⟨d,m,o⟩
  obtain⟨b,rfl⟩:=hφ.onto a
  refine⟨fun j=>c j+b*d j,(inC_lin n A).step _ _ b k m,fun i hi=>?_⟩
  show f (P i)+φ b*g (P i)=s i*φ (c i+b*d i)
  rw[l i hi,o i hi,hφ.add,hφ.mul,H.dist,<- H.mulA,<- H.mulA,H.mulC (φ b)]
theorem map_law{n low:Nat}{A:LL}{P:Nat->Nat}{s:Nat->El q O h}{φ:El q O h->El q O h}(hφ:Aut h φ)(x:∀ i,i<n->s i≠0)(r:∀ j,j<n->P j<n)(t:∀ i j,i<j->j<n->P i≠P j)(u:MinW h n A low){f:Nat->El q O h}(v:QMap h n A P s φ f):wf n f=0\/low<=wf n f:=by
 have H:=El.fd (h:=h);obtain⟨g,o,d⟩:=v;rcases u g o with h3|h3
 . refine .inl (qcW fun j hj=>?_);obtain⟨i,b,rfl⟩:=inj_surj r t hj;rw[d i b,h3 i b,hφ.zero,H.mulZ]
 . right;have l:=ns_inj (fun j=>if (f j).n=0 then 0 else 1) r t;have p:wf n g=ns n fun j=>if (f (P j)).n=0 then 0 else 1:=qfK fun j hj=>by
    by_cases c:(g j).n=0
    . rw[if_pos c,if_pos];rw[d j hj,El.n_zero.1 c,hφ.zero,H.mulZ];rfl
    . rw[if_neg c,if_neg];intro k;have m:=El.n_zero.1 k;rw[d j hj] at m;exact H.mulne (x j hj) (fun e=>c (El.n_zero.2 (hφ.inj _ e))) m
   rw[<- p] at l;unfold wf at h3 l ⊢;omega
end
end Al
end Go.Proofs.YtocbdafcolbfeaaGreat
namespace Go.Proofs.YtocbdafcolbfeaaGreat
open Go.RowKit Pln Go.Proofs.Tryz
open Al
def natL(zs:LI):LN:=zs.map Int.toNat
theorem qeV(zs:LI):(natL zs).length=zs.length:=by simp[natL]
theorem SetK.nat{n:Int}{zs:LI}(h:SetK n zs zs.length):nz (natL zs)=zs:=by
 refine List.ext_getElem (by rw[qaA,qeV]) fun i h1 h2=>?_;have b:=(h i h2).1;have e:zs.getD i 0=zs[i]:=by simp[List.getD,h2]
 rw[e] at b;simp only[nz,natL,List.getElem_map];omega
theorem SetK.ge{n:Int}{zs:LI}{k:Nat}(h:SetK n zs k):∀ t,t<k->(t:Int)<=zs.getD t 0
 |0,ht=>(h 0 ht).1
 |t + 1,ht=>by
   have h1:=SetK.ge h t U0
   have b:=(h (t+1) ht).2.2 t rfl
   omega
theorem SetK.len{n:Nat}{zs:LI}(h:SetK (n:Int) zs zs.length):zs.length<=n:=by
 by_cases e:zs.length=0
 . omega
 . have b:=h.ge (zs.length-1) U0;have c:=(h (zs.length-1) U0).2.1;omega
theorem mem_free{l:LN}{n i:Nat}:i∈freeC l n ↔ i<n/\i∉l:=by unfold freeC;rw[List.mem_filter,List.mem_range];simp
theorem free_cover{l:LN}{n:Nat}:∀ i,i<n->(∃ t,t<l.length/\l.getD t 0=i)\/∃ j,j<(freeC l n).length/\(freeC l n).getD j 0=i:=fun i hi=>by
 by_cases c:i∈l
 . left
   obtain⟨t,b,e⟩:=List.mem_iff_getElem.1 c
   exact⟨t,b,by rw[getD_at b];exact e⟩
 . right
   obtain⟨t,b,e⟩:=List.mem_iff_getElem.1 (mem_free.2 ⟨hi,c⟩)
   exact⟨t,b,by rw[getD_at b];exact e⟩
theorem free_lt{l:LN}{n:Nat}:∀j,j<(freeC l n).length->(freeC l n).getD j 0<n:=fun j hj=>by
 rw[getD_at hj]
 exact(mem_free.1 (List.getElem_mem hj)).1
theorem free_pos{l:LN}{n:Nat}(h:l.length<n):0<(freeC l n).length:=by refine Nat.pos_of_ne_zero fun e=>?_;have b:=ns_cover (n:=n) (N:=(freeC l n).length) (P:=fun j=>(freeC l n).getD j 0) (l:=l) (fun _=>1) free_cover;rw[ns_one,ns_one,ns_one] at b;omega
theorem qfF{q n N:Nat}(d:0<q){rows:LL}{f:LN}(c:Grid q n N rows):Grid q n f.length (colsM rows f):=by refine⟨by rw[colsM_len,c.1],fun r hr=>?_⟩;unfold colsM at hr;obtain⟨u,b,rfl⟩:=List.mem_map.1 hr;refine⟨U2,fun x hx=>?_⟩;obtain⟨j,_,rfl⟩:=List.mem_map.1 hx;exact getD_ok (c.2 u b).2 d j
theorem punc_c(p m:Int)(mod:LI)(Am:OA)(cm N:Nat)(gs:List LI)(A:OA)(c:Nat)(zs:LI)(As:OA)(cs:Nat)(w:Wo)(ha:CD.At ⟨p,m,mod,Am,cm,N,gs,A,c⟩ w)(hS:zI w As zs)(ak:zs.length<=9223372036854775807):
 zC 59 #[C8 p m Am mod.length cm N A gs.length c,zL As zs.length cs] w (ConPost w p m mod (freeC (natL zs) N).length (SetK N zs zs.length) (·∈colsM (natR gs) (freeC (natL zs) N))):=by
 obtain⟨a1,a2,a3,a4,Q,T,a7⟩:=qbW ha.z;dsimp only at a1 a4 Q T a7;have af:0<p.toNat^m.toNat:=by have:=(Al.fld_of (field_ft Q)).q1;omega
 have ag:=freeC_le (natL zs) N;have S:zK (BoxK w (C2 p m Am mod.length cm N A gs.length c) (Cd) ((w.alloc (C4 p m Am mod.length cm N A gs.length c)).alloc (Ca))):=boxK w _ _
 have s:=zH<|fun W hW=>
  positions_any p m mod Am cm N gs A c zs As cs W (ha.keep hW).mod U0 (ha.keep hW).gen U0 ((hS.keep hW).more hW.size) ak ha.z
 have H:=zH<|fun W=>mgen_c p m Am mod.length cm N A gs.length c W
 have I:zK (Grid (p.toNat^m.toNat) (colsM (natR gs) (freeC (natL zs) N)).length (freeC (natL zs) N).length (colsM (natR gs) (freeC (natL zs) N))):=by show Grid _ _ _ _;rw[colsM_len,natR_len];exact qfF af T
 have y:zK (SetK (N:Int) zs zs.length->(zs.length:Int)≠(N:Int)->∀W,zB w W->zC 126 #[C7 p m Am mod.length cm,Co N A gs.length c,zL As zs.length cs] W (NewPostA W p m mod (freeC (natL zs) N).length (canonM (opsT p.toNat m.toNat (lOf p m mod)) (colsM (natR gs) (freeC (natL zs) N)) (freeC (natL zs) N).length))):=fun D h2 W hW=>by
  have ah:=D.len;have ae:=I.o
  have:=keepA_c p m mod Am cm N (natR gs) A c (natL zs) As cs W (ha.keep hW).mod U0 (by rw[qeV];omega) (by rw[a7];exact(ha.keep hW).gen) (by rw[D.nat];exact(hS.keep hW).more hW.size)
   (qeY Q (by rw[natR_len];exact T) a3 (by rw[natR_len];omega)) (free_pos (by rw[qeV];omega)) (qeY Q ae U0 (by rw[colsM_len,natR_len];omega)) (by unfold lengthZ;rw[if_neg (by have:=free_pos (l:=natL zs) (n:=N) (by rw[qeV];omega);omega)])
  rw[natR_len,qeV] at this;exact this
 clear ha hS a4 Q T a7;generalize colsM (natR gs) (freeC (natL zs) N)=rr at *;generalize (freeC (natL zs) N).length=M at *;go_enter func59,ntmps59;go_upto_region 1 with fail;generalize (w.alloc (C4 p m Am mod.length cm N A gs.length c)).alloc (Ca)=W0 at *;have t:=zH<|qeS S.o.k0
 go_wp2_with (refine wpList_load_mid rfl 32 (.tmp 2) rfl w.heap.size 0 rfl (C2 p m Am mod.length cm N A gs.length c) _ t.o underlying32 rfl codeSz ?_);(with_reducible refine(s.o W0 S.o.below).mono ?_);rintro e x ⟨⟨z,rfl,hz⟩,hb1⟩;have HZ:=zH hz;have b:=zH (S.o.keep hb1);clear hz hb1 S t s;clear W0;have V:=zH b.o.k1;by_cases i:z=0;rotate_left
 . have aj:=bne_iff_ne.2 i;have ad:=zH i;clear i HZ;have O:=zH (b.o.set (Cd));go_wp2_with (refine wpList_store_row rfl 32 (.tmp 4) (.tmp 12) rfl x (w.heap.size+1) 32 (C6) (C6) rfl rfl V.o codeSz rfl U3 ?_);refine bodyPost_ret (results_row_one (P:=prog) rfl _ _ (w.heap.size+1) 32 (C6) (0,0) _ _ rfl rfl O.o.k1 underlying32 rfl codeSz) rfl ?_;exact⟨O.o.below,.inl ⟨z,ad.o,rfl⟩⟩
 subst i;have C:=zH (HZ.o rfl);clear HZ;go_upto_region 4 with fail;have K:zK (∀W,LSt x W->W.rangeAt w.heap.size 0 (C2 p m Am mod.length cm N A gs.length c)):=fun W hW=>qeS (b.o.keep hW).k0
 have aa:zK (∀W,LSt x W->W.rangeAt w.heap.size 0 (C5 p m Am mod.length cm)):=fun W hW j v hv=>K.o W hW j v (by
  match j,hv with
  |0,hv=>exact hv
  |1,hv=>exact hv
  |2,hv=>exact hv
  |j+3,hv=>simp at hv)
 have B:zK (LSt x x.drew):=zV.drew;refine qaS 9 8 (LSt x) [(1,0),(0,1),(0,2),(1,4),(2,3),(2,5),(1,6),(1,7),(3,8)] default U1 U1 (fun _ _ d _ _ h=>by cases d<;>exact h) B.o ?_;simp only[List.map_cons,List.map_nil,List.getD_cons_zero,List.getD_cons_succ];apply qaM rfl
 . intro W;go_simp;rfl
 go_simp;refine qaT rfl 29 (.tmp 14) rfl w.heap.size 0 rfl (C5 p m Am mod.length cm) _ aa.o underlying29 rfl fieldSize ?_;go_simp;refine qaT rfl 32 (.tmp 2) rfl w.heap.size 0 rfl (C2 p m Am mod.length cm N A gs.length c) _ K.o underlying32 rfl codeSz ?_;go_simp;apply qaM rfl
 . intro W;go_simp;rfl
 go_simp;apply qbE rfl
 . go_simp;exact⟨rfl,rfl⟩
 with_reducible refine(H.o _).mono ?_
 rintro e U ⟨rfl,hb2⟩;have f:zK (LSt x U):=Below.trans B.o (Below.mono hb2 (Below.size B.o));refine⟨_,rfl,f.o,?_⟩;go_simp;apply qbE rfl
 . go_simp;exact⟨rfl,rfl⟩
 have ac:=zH<|b.o.below.trans (Below.mono f.o b.o.below.size)
 have J:=zH (y.o C.o.1 C.o.2 U ac.o);with_reducible refine J.o.mono ?_
 rintro e w4 ⟨⟨Ag,c',R,k,rfl,hu4,hr4⟩,hb4⟩;have E:zK (LSt x w4):=Below.trans f.o (Below.mono hb4 (Below.size f.o));refine⟨_,rfl,E.o,?_⟩;go_simp
 iterate 2
  apply qaM rfl
  . intro W
    go_simp
    rfl
  go_simp
 generalize u:canonM (opsT p.toNat m.toNat (lOf p m mod)) rr M=g at *;have q:=zH u;have L:=zH (b.o.keep E.o);have X:=zH L.o.k1;have O:=zH (L.o.set (C2 p m Ag mod.length c' M R g.length k));have ab:=zH hu4;have Z:=zH hr4;have ai:=(b.o.keep f.o).size;clear hu4 hr4 hb4 hb2 J u;refine qcA rfl 32 (.tmp 4) (.tmp 20) rfl (w.heap.size+1) 32 (C6) (Cc p m Ag mod.length c' M R g.length k) rfl rfl X.o codeSz rfl U3 ?_;go_simp;refine qbH ?_;go_wp2_with fail;refine bodyPost_ret (results_row_one (P:=prog) rfl _ _ (w.heap.size+1) 32 (Cc p m Ag mod.length c' M R g.length k) (0,0) _ _ rfl rfl O.o.k1 underlying32 rfl codeSz) rfl ?_;refine⟨O.o.below,.inr ⟨rr,Ag,R,c',k,by rw[q.o];rfl,?_,?_,I.o,U0,C.o.1,fun r hr=>hr⟩⟩
 . have D:IntsUp (w4.setRow (w.heap.size+1) (Cc p m Ag mod.length c' M R g.length k)) (U.heap.size+1+1+1) Ag mod:=ab.o.of_blocks U2 fun k hk _=>setRow_other w4 (w.heap.size+1) k _ U0;exact D.lower U0
 . rw[q.o];have D:=Z.o.setRow (show w.heap.size+1<U.heap.size+1+1+1 by omega) (Cc p m Ag mod.length c' M R g.length k);exact D.lower U0
end Go.Proofs.YtocbdafcolbfeaaGreat
namespace Go.Proofs.YtocbdafcolbfeaaGreat
open Go.RowKit Pln
open Al
section
variable {p m m1:Nat} {md l md1 l1:LN}
theorem emb_of(hF:FT p m md l)(q:FT p m1 md1 l1){r:Nat}(s:r<p ^ m)(k:md1.length=m1)(o:∀ d∈md1,d<p)(t:m1=1->md1=[0])(n:m1=1\/evN (opsT p m l) (md1++[1]) r=0):
 ∃r',r'<p^m/\Emb hF q (El.of (fld_of hF) r')/\∀x,imN (opsT p m l) p m1 r x=imN (opsT p m l) p m1 r' x:=by
 have H:=El.fd (h:=fld_of hF);have g:=(fld_of hF).q1;have f:p<=p^m:=Nat.le_self_pow (by have:=hF.small.m1;omega) p;by_cases b:m1=1
 . refine⟨0,U0,⟨?_⟩,fun x=>?_⟩
   . rw[t b,b,El.of_zero];show(0+cst (fld_of hF) 0*1)+1*0=0;rw[H.mulU,H.addZ,H.zadd];exact H.zmul 1
   . rw[b];rfl
 . rcases n with h|h
   . exact absurd h b
   . refine ⟨r,s,⟨?_⟩,fun x => rfl⟩;have i:∀ a∈md1++[1],a<p ^ m:=fun a ha=>by
      rcases List.mem_append.1 ha with h|h
      . have:=o a h;omega
      . (have:a=1:=by simpa using h);omega
     have e:=of_evN (h:=fld_of hF) s (md1++[1]) i;rw[h,El.of_zero,ev_sm,List.map_append,List.length_append,List.length_map,k] at e;show Es (fld_of hF) (El.of (fld_of hF) r) m1 md1+pwr (El.of (fld_of hF) r) m1=0;rw[e];show _=sm m1 _+_;congr 1
     . refine H.sm_congr fun j hj=>?_;(have c:(md1.map (El.of (fld_of hF))++[1].map (El.of (fld_of hF))).getD j 0=El.of (fld_of hF) (md1.getD j 0):=by simp[List.getD,List.getElem?_append_left,k,hj]);(have hd:md1.getD j 0<p:=by rw[getD_at U0];exact o _ (List.getElem_mem _));rw[c,(chr_of hF).of _ hd]
     . (have c:(md1.map (El.of (fld_of hF))++[1].map (El.of (fld_of hF))).getD m1 0=El.of (fld_of hF) 1:=by simp[List.getD,k]);show _=(md1.map (El.of (fld_of hF))++[1].map (El.of (fld_of hF))).getD m1 0*pwr (El.of (fld_of hF) r) m1;rw[c,El.of_one,H.mulU]
end
end Go.Proofs.YtocbdafcolbfeaaGreat
namespace Go.Proofs.YtocbdafcolbfeaaGreat
open Go.RowKit Pln
def ThreeOk:Prop:=∀W:Wo,zC 5 #[] W fun e w'=>e=.returned (.bool true)/\zB W w'
theorem form_code{d:StD}(h:formZ d=0):codeZ d.p d.m d.mod d.n d.gen=0:=by
 unfold formZ at h;split at h
 . rename_i hz;exact absurd h hz
 . rename_i hz;exact Classical.byContradiction hz
def LocPost(w:Wo)(e:Ending)(w':Wo):Prop:=e=.returned (.bool true)/\zB w w'
end Go.Proofs.YtocbdafcolbfeaaGreat
