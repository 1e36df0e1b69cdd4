/- Parts of the proof. -/
import Derived.Test.YtocbdafcolbfeaaGreatR15
import Derived.Test.YtocbdafcolbfeaaGreatR12
set_option maxRecDepth 100000
set_option maxHeartbeats 8000000
namespace Go.Proofs.YtocbdafcolbfeaaGreat
open Go.RowKit Pln Tryz
theorem rsame_c(zs R:LI)(A T:OA)(c V:Nat)(w:Wo)(U:zI w A zs)(S:zI w T R)(W:zs.length<=9223372036854775807):
 zC 88 #[zL A zs.length c,zL T R.length V] w (Quiet (.bool (decide (zs=R))) w):=by
 have C:=zH U;have m:=zH S;clear U S;by_cases d:zs.length=R.length
 . have r : zK (∀ k,k < zs.length -> zs.getD k 0 ≠ R.getD k 0 -> decide (zs = R) = false) := fun k u h => decide_eq_false (fun e => h (by rw [e]));have i:zK (zs.take zs.length=R.take zs.length->decide (zs=R)=true):=fun h=>decide_eq_true (by rw [List.take_length,d,List.take_length] at h;exact h);have t:zK (∀ k,k<zs.length->zs.take k=R.take k->zs.getD k 0=R.getD k 0->zs.take (k+1)=R.take (k+1)):=fun k u h he=>qcQ 0 u U0 h he;have v:((zs.length:Int) != (R.length:Int))=false:=so;have J:R.length<=zs.length:=U0;have B:zs.length<=R.length:=U0;clear d;go_enter func88,ntmps88;go_wp2;go_loopw [5] (fun v13 wr=>RelEq zs R w v13 wr) (fun v13 _=>zs.length-(intOf v13).toNat);case atStart=>exact ⟨0,0,U0,rfl,U2,rfl⟩
   case round =>
    obtain⟨k,n,u,rfl,l,rfl⟩:=hrel;have j:=zH l;clear l;by_cases f:k<zs.length
    . obtain ⟨b,o,rfl,L,M⟩ := C.o.at_ f;obtain ⟨K,Q,rfl,H,I⟩:=m.o.at_ (k:=k) U0;have D:=zH (r.o k f);have E:=zH (t.o k f j.o);generalize zs.getD k 0=z at *;generalize R.getD k 0=y at *;have N:(0:Int)<=(k:Int):=U0;have O:(k:Int)<(zs.length:Int):=U0;have P:(k:Int)<(R.length:Int):=U0;by_cases g:z=y
      . (have x : (z != y) = false:=by simp[g]);have s:=zH (E.o g);clear g;go_upto_region 6 with fail;go_quiet (fail);go_wp2;go_roundw;case rel=>exact⟨k+1,n+nq,U0,gn,s.o,rfl⟩
        case measure=>simp[intOf];omega
      . (have x:(z != y)=true:=by simp[g]);have q:=zH (D.o g);clear g;go_upto_region 6 with fail;go_quiet (fail);go_wp2;go_ret;exact⟨qaN q.o.symm,n+nq,df⟩
    . (obtain rfl:k=zs.length:=by omega);have p:=zH (i.o j.o);go_wp2;go_ret;exact⟨qaN p.o.symm,n,rfl⟩
 . (have v:((zs.length:Int) != (R.length:Int))=true:=by simp;omega);have p:zK (decide (zs=R)=false):=decide_eq_false (fun e=>d (by rw[e]));clear d;go_enter func88,ntmps88;go_wp2;go_ret;exact⟨qaN p.o.symm,0,rfl⟩
theorem rsamerows_c(zs ys:List LI)(A A':OA)(c c':Nat)(w:Wo)(hA:zR w A zs)(aa:zR w A' ys)(hl:zs.length<=9223372036854775807)(hr:∀ k,k<zs.length->(zs.getD k []).length<=9223372036854775807):
 zC 38 #[zL A zs.length c,zL A' ys.length c'] w (Quiet (.bool (decide (zs=ys))) w):=by
 have R:=zH hA;have C:=zH aa;have S:=zH hr;clear hA aa hr;by_cases g:zs.length=ys.length
 . have I : zK (∀ k,k < zs.length -> zs.getD k [] ≠ ys.getD k [] -> decide (zs = ys) = false) := fun k N h => decide_eq_false (fun e => h (by rw [e]));have u:zK (zs.take zs.length=ys.take zs.length->decide (zs=ys)=true):=fun h=>decide_eq_true (by rw [List.take_length,g,List.take_length] at h;exact h);have L:zK (∀ k,k<zs.length->zs.take k=ys.take k->zs.getD k []=ys.getD k []->zs.take (k+1)=ys.take (k+1)):=fun k N h he=>qcQ [] N U0 h he;have O:((zs.length:Int) != (ys.length:Int))=false:=so;have V:ys.length<=zs.length:=U0;have Q:zs.length<=ys.length:=U0;clear g;go_enter func38,ntmps38;go_wp2;go_loopw [5] (fun v17 wr=>RelEq zs ys w v17 wr) (fun v17 _=>zs.length-(intOf v17).toNat);case atStart=>exact ⟨0,0,U0,rfl,U2,rfl⟩
   case round =>
    obtain⟨k,n,N,rfl,z,rfl⟩:=hrel;have v:=zH z;clear z;by_cases j:k<zs.length
    . obtain ⟨b,o,B,M,rfl,hb,hc,P⟩ := R.o.at_ j;obtain ⟨b',o',l,p,rfl,T,U,y⟩:=C.o.at_ (i:=k) U0;have E:=zH (I.o k j);have J:=zH (L.o k j v.o)
      have d:=zH<|fun n=>
       rsame_c (zs.getD k []) (ys.getD k []) B l M p (w.drewN n) (P.keep (qaB zV n)) (y.keep (qaB zV n)) (S.o k j)
      clear P y;have k0:(0:Int)<=(k:Int):=U0;have k1:(k:Int)<(zs.length:Int):=U0;have k2:(k:Int)<(ys.length:Int):=U0;by_cases t:zs.getD k []=ys.getD k []
      . have K := zH (J.o t);(have x:=zH<|decide_eq_true t);clear t E J;(have m:zK (∀ W,SDrew w W->zC 88 #[zL B (zs.getD k []).length M,zL l (ys.getD k []).length p] W fun e w'=>e=.returned (.bool true)/\SDrew w w'):=fun W ⟨r,hW⟩=>by subst hW;refine (d.o r).mono ?_;rintro e w' ⟨he,s,rfl⟩;exact ⟨by rw [he,x.o],r+s,V0⟩);clear d x;generalize (zs.getD k []).length=X at *;generalize (ys.getD k []).length=Z at *;go_upto_region 6 with fail;refine qaD (SDrew w) U1 U1 ⟨n+1,by rw [<- World.drewN_drewN];rfl⟩ ?_
        repeat (first
         | (apply qaJ rfl
            . intro W f
              obtain⟨r,rfl⟩:=f
              go_simp
              rfl
            go_simp)
         | (apply qaO rfl
            . intro W f
              go_simp
              exact⟨rfl,rfl⟩
            . intro W f
              exact m.o W f
            go_simp))
        refine qaE ?_;intro w2 q;obtain⟨s,rfl⟩:=q;go_wp2;go_roundw;case rel=>exact⟨k+1,s,U0,gn,K.o,rfl⟩
        case measure=>simp[intOf];omega
      . have H := zH (E.o t);(have x:=zH<|decide_eq_false t);clear t E J;(have m:zK (∀ W,SDrew w W->zC 88 #[zL B (zs.getD k []).length M,zL l (ys.getD k []).length p] W fun e w'=>e=.returned (.bool false)/\SDrew w w'):=fun W ⟨r,hW⟩=>by subst hW;refine (d.o r).mono ?_;rintro e w' ⟨he,s,rfl⟩;exact ⟨by rw [he,x.o],r+s,V0⟩);clear d x;generalize (zs.getD k []).length=X at *;generalize (ys.getD k []).length=Z at *;go_upto_region 6 with fail;refine qaD (SDrew w) U1 U1 ⟨n+1,by rw [<- World.drewN_drewN];rfl⟩ ?_
        repeat (first
         | (apply qaJ rfl
            . intro W f
              obtain⟨r,rfl⟩:=f
              go_simp
              rfl
            go_simp)
         | (apply qaO rfl
            . intro W f
              go_simp
              exact⟨rfl,rfl⟩
            . intro W f
              exact m.o W f
            go_simp))
        refine qaE ?_;intro w2 q;obtain⟨s,rfl⟩:=q;go_wp2;go_ret;exact⟨qaN H.o.symm,s,rfl⟩
    . (obtain rfl:k=zs.length:=by omega);have D:=zH (u.o v.o);go_wp2;go_ret;exact⟨qaN D.o.symm,n,rfl⟩
 . (have O:((zs.length:Int) != (ys.length:Int))=true:=by simp;omega);have D:zK (decide (zs=ys)=false):=decide_eq_false (fun e=>g (by rw[e]));clear g;go_enter func38,ntmps38;go_wp2;go_ret;exact⟨qaN D.o.symm,0,rfl⟩
theorem elGo_nil(O:Ops):∀ c,elGo O [] c=⟨[],[]⟩
 |0=>rfl
 |c + 1=>by
   unfold elGo
   rw[elGo_nil O c]
   rfl
theorem reliminate_nil(p m:Int)(A:OA)(n f:Nat)(g:OA)(c2:Nat)(cols:Int)(h:1<=cols)(w:Wo):zC 87 #[C7 p m A n f,zL g 0 c2,Y cols] w fun e w'=>e=.returned (.tuple #[zL none 0 0,zL none 0 0])/\zB w w':=by
 have c:=zH (qbK w p m A n f);go_enter func87,ntmps87;go_upto_region 1 with fail;generalize w.alloc (C3 p m A n f)=d at *;have b:=zH (rcopy_nil g c2 d);go_wp2_with (go_at_call 147;go_fit b.o;rintro e w' ⟨rfl,rfl⟩);go_loop [9,10,11] (fun v9 v10 v11=>v11=Y 0/\v10=Y 0/\v9=zL none 0 0) (fun _ _ _=>0);case atStart=>exact⟨rfl,rfl,rfl⟩
 case round=>obtain⟨rfl,rfl,rfl⟩:=hrel;go_wp2;go_ret2;exact⟨rfl,c.o.bl⟩
theorem rcanon_c(p m:Nat)(md:LN)(A:OA)(n L:Nat)(rows:LL)(N:OA)(c2 cols:Nat)(w:Wo)(S:RFld p m md A n w.heap.size w)(T:∃ l,FT p m md l)(M:Grid (p ^ m) rows.length cols rows)(Q:zR w N (nzs rows))(P:1<=cols)(V:cols<=256)(U:rows.length<=256):
 zC 37 #[C7 p m A n L,zL N rows.length c2,Y cols] w fun e w'=>(∃(A':OA)(ck:Nat)(VA:OA)(c3:Nat),e=.returned (.tuple #[zL A' (canonM (refOps p m md) rows cols).length ck,zL VA (elGo (refOps p m md) rows cols).piv.length c3])/\RowsUp w' w.heap.size A' (nzs (canonM (refOps p m md) rows cols))/\zI w' VA (nz (elGo (refOps p m md) rows cols).piv))/\zB w w':=by
 have q:=zH (qbK w p m A n L);by_cases b:rows.length=0
 . (have t:canonM (refOps p m md) rows cols=[]:=by have:rows=[]:=List.length_eq_zero_iff.1 b;subst this;unfold canonM;rw[elGo_nil];rfl);(have v:(elGo (refOps p m md) rows cols).piv=[]:=by have:rows=[]:=List.length_eq_zero_iff.1 b;subst this;rw[elGo_nil]);rw[t,v,b];clear S T M Q t v U b;go_enter func37,ntmps37;go_upto_region 1 with fail;generalize w.alloc (C3 p m A n L)=B at *;have f:=zH q.o.range;have x:=zH (reliminate_nil p m A n L N c2 cols U0 B);go_wp2_with (refine wpList_load_mid rfl 29 (.tmp 3) rfl w.heap.size 0 rfl (C5 p m A n L) _ f.o underlying29 rfl fieldSize ?_);go_fit x.o;rintro e H ⟨rfl,hb1⟩;have k:=zH (q.o.grow hb1);clear hb1;go_wp2;go_ret2;exact⟨⟨none,0,none,0,rfl,(fun h=>by simp[nzs] at h),fun h=>by simp[nz] at h⟩,k.o.bl⟩
 . have x := zH<|fun W hW =>
    reliminate_c p m md A n L rows N c2 cols W ((S.keep hW).more hW.size) T M ((Q.keep hW).more hW.size) P V U0 U
   have s:=zH (canonM_len (refOps p m md) rows cols);have c:=zH (elGo_piv (O:=refOps p m md) rows cols);have j:=zH (elGo_len (O:=refOps p m md) rows cols);have r:=zH (canonM_getD (refOps p m md) rows cols);clear S T M Q b;generalize refOps p m md=O at *;go_enter func37,ntmps37;go_upto_region 1 with fail;generalize w.alloc (C3 p m A n L)=B at *;have f:=zH q.o.range;go_wp2_with (refine wpList_load_mid rfl 29 (.tmp 3) rfl w.heap.size 0 rfl (C5 p m A n L) _ f.o underlying29 rfl fieldSize ?_);(with_reducible refine(x.o B q.o.bl).mono ?_);rintro e H ⟨⟨R,cR,VA,ck,bs,rfl,hgd,hpv⟩,hb1⟩;have y:=zH hpv;have k:=zH (q.o.grow hb1);have z:zK (RowsUp H w.heap.size (zO R) (nzs (canonM O rows cols))):=(hgd.rowsAt (canonM O rows cols) (by rw[s.o,j.o];exact c.o.2) (fun i hi=>r.o i (by rw[<- s.o];exact hi))).lower (by have:=q.o.bl.size;omega);have C:=c.o.2;obtain⟨cur,u⟩:=qdE hgd.out;have E:rows.length<=cR:=by
    have h:=hgd.out.2;rcases h with⟨P,_⟩|⟨g,I,D,J,_,_,K,_⟩
    . cases P
    . simp only[Value.slice.injEq] at J;have:=j.o;omega
   rw[<- s.o] at C;have d:=zH s.o.symm;clear hb1 hgd hpv s c j r u;rw[d.o];go_wp2;go_ret2;refine⟨⟨some (zA R 0),cR,VA,ck,?_,z.o,y.o⟩,k.o.bl⟩
   first
    |rfl
    |(rw[d.o];done)
    |(rw[d.o];rfl)
theorem rspcheck_c(p m:Int)(mod:LI)(Z:OA)(cm:Nat)(cols:Int)(zs:List LI)(A:OA)(c:Nat)(w:Wo)(hM:zI w Z mod)(hl:mod.length<=9223372036854775807)(hA:zR w A zs)(aa:zs.length<=9223372036854775807)(h1:1<=cols):
 zC 19 #[C7 p m Z mod.length cm,Co cols A zs.length c] w fun e w'=>e=.returned (Y (spZ p m mod cols zs))/\zB w w':=by
 have r:=zH (box2_new w p m Z mod.length cm cols A zs.length c);have L:=zH hM;have J:=zH hA;clear hM hA;go_enter func19,ntmps19;go_upto_region 1 with fail;generalize (w.alloc (C3 p m Z mod.length cm)).alloc (Cb cols A zs.length c)=P at *;have h:=zH r.o.range;have n:=zH r.o.range1;have O:=zH (rcheck_c p m mod Z cm cols zs A c P ((L.o.keep r.o.below).more r.o.below.size) hl ((J.o.keep r.o.below).more r.o.below.size) aa);go_wp2_with (first|(refine wpList_load_mid rfl 29 (.tmp 2) rfl w.heap.size 0 rfl (C5 p m Z mod.length cm) _ h.o underlying29 rfl fieldSize ?_)|(refine wpList_load_mid rfl 54 (.tmp 3) rfl (w.heap.size+1) 0 rfl (Cn cols A zs.length c) _ n.o underlying54 rfl matSize ?_));go_fit O.o;rintro e N ⟨rfl,hb1⟩;have b:=zH (r.o.grow hb1);clear hb1 r O h n;clear P;by_cases d:errC p m mod cols zs=0
 . rw [d];have g:fieldOK p m mod=true:=by
    unfold errC at d;split at d
    . assumption
    . cases d
   (have E:checkZ (p.toNat^m.toNat) cols zs=0:=by unfold errC at d;rw[if_pos g] at d;exact d);obtain⟨H,x,T,U,M⟩:=check_grid E;(have I:shapeM p m mod=true:=by unfold fieldOK at g;rw[Bool.and_eq_true] at g;exact g.1);have t:=qeU I;have v:=field_ft g;have k:(mdOf m mod).length=m.toNat:=by
    by_cases y:m=1
    . rw[y];simp[mdOf]
    . unfold mdOf;rw[if_neg y,List.length_map];exact t.len y
   have s:canonM (refOps p.toNat m.toNat (mdOf m mod)) (natR zs) cols.toNat=canZ p m mod cols zs:=(canon_eq (ops_eq v k) x).symm
   have C:zK (RFld p.toNat m.toNat (mdOf m mod) Z mod.length N.heap.size N):=⟨t.small,k,t.lt,fun h2=>by
    have y:m≠1:=by intro e;rw[e] at h2;exact absurd h2 dc
    exact⟨t.len y,by rw[t.nat y];exact(L.o.keep b.o.below).more b.o.below.size⟩⟩
   have u:=zH (rcanon_c p.toNat m.toNat (mdOf m mod) Z mod.length cm (natR zs) A c cols.toNat N C.o ⟨_,v⟩ x (by rw[H];exact(J.o.keep b.o.below).more b.o.below.size) U0 U0 (by rw[natR_len];exact M));rw[natR_len,s,t.p0,t.m0,show((cols.toNat:Nat):Int)=cols by omega] at u;(have l:zK (spZ p m mod cols zs=if nzs (canZ p m mod cols zs)=zs then 0 else 5):=by show _=_;unfold spZ;rw[if_neg (by simp[d])]);have q:=zH (canZ_rows d);have z:=zH (canZ_len d);clear d g E H x I t v k s C L;generalize canZ p m mod cols zs=Q at *;have h:=zH b.o.range;have R:=b.o.c0;have S:=b.o.c1;go_wp2_with (refine wpList_load_mid rfl 29 (.tmp 2) rfl w.heap.size 0 rfl (C5 p m Z mod.length cm) _ h.o underlying29 rfl fieldSize ?_);go_fit u.o;rintro e W ⟨⟨A',ck,VA,c3,rfl,hra,_⟩,hb2⟩;have j:=zH (b.o.grow hb2);have i:=zH (rsamerows_c (nzs Q) zs A' A ck c W hra.rowsAt ((J.o.keep j.o.below).more j.o.below.size) (by have:=z.o;omega) q.o);rw[nzs_len] at i;have D:=j.o.c1;clear hra hb2 R S u q z b h J;by_cases f:nzs Q=zs
   . rw[decide_eq_true f] at i;(have B:zK (spZ p m mod cols zs=0):=by show _=_;rw[l.o,if_pos f]);clear f l;go_wp2_with fail;go_fit i.o;rintro e X ⟨rfl,n4,rfl⟩;have K:=zH (qaB j.o.below n4);clear D;go_wp2;go_ret;exact⟨qaG B.o.symm,K.o⟩
   . rw[decide_eq_false f] at i;(have B:zK (spZ p m mod cols zs=5):=by show _=_;rw[l.o,if_neg f]);clear f l;go_wp2_with fail;go_fit i.o;rintro e X ⟨rfl,n4,rfl⟩;have K:=zH (qaB j.o.below n4);clear D;go_wp2;go_ret;exact⟨qaG B.o.symm,K.o⟩
 . (have B:zK (spZ p m mod cols zs=errC p m mod cols zs):=by show _=_;unfold spZ;rw[if_pos d]);(have V:(errC p m mod cols zs != 0)=true:=by rw[bne_iff_ne];exact d);clear d;go_wp2;go_ret;exact⟨qaG B.o.symm,b.o.below⟩
theorem rcodecheck_c(p m:Int)(mod:LI)(B:OA)(C:Nat)(N:Int)(zs:List LI)(A:OA)(c:Nat)(w:Wo)(H:zI w B mod)(I:mod.length<=9223372036854775807)(E:zR w A zs)(D:zs.length<=9223372036854775807):
 zC 8 #[C8 p m B mod.length C N A zs.length c] w fun e w'=>e=.returned (Y (codeZ p m mod N zs))/\zB w w':=by
 have h:zK (SBoxC w (C2 p m B mod.length C N A zs.length c) (w.alloc (C4 p m B mod.length C N A zs.length c))):=
  ⟨heap_alloc_new _ _,zV.alloc zn _,U2⟩
 have j:=zH H;have r:=zH E;clear H E;go_enter func8,ntmps8;go_upto_region 1 with fail;generalize w.alloc (C4 p m B mod.length C N A zs.length c)=t at *;have d:=zH h.o.range3;have s:=zH (rfcheck_c p m mod B C t ((j.o.keep h.o.2.1).more h.o.2.1.size) I);go_wp2_with (refine wpList_load_mid rfl 29 (.tmp 4) rfl w.heap.size 0 rfl (C5 p m B mod.length C) _ d.o underlying29 rfl fieldSize ?_);go_fit s.o;rintro e q ⟨rfl,hb1⟩;have b:=zH (h.o.grow hb1);clear hb1 h s d;clear t;cases hok:fieldOK p m mod
 . (have f:zK (codeZ p m mod N zs=1):=by show _=_;unfold codeZ;rw[if_pos hok]);have i:errF false=1:=rfl;rw[i];clear hok i;go_wp2;go_ret;exact⟨qaG f.o.symm,b.o.2.1⟩
 . have i : errF true = 0 := rfl;rw [i];have x:q.cell? (zA w.heap.size 3)=some (Y N):=cell_of_row _ _ 3 _ _ _ b.o.1;have y:q.cell? (zA w.heap.size 4)=some (zL A zs.length c):=cell_of_row _ _ 4 _ _ _ b.o.1;clear i;by_cases u:N<1
   . (have f:zK (codeZ p m mod N zs=4):=by(have g:lengthZ N=4:=by unfold lengthZ;rw[if_pos U0]);show _=_;unfold codeZ;rw[if_neg (by simp[hok]),if_pos (by rw[g];decide)]);clear hok;go_wp2;go_ret;exact⟨qaG f.o.symm,b.o.2.1⟩
   . by_cases v : 64 < N
     . (have f:zK (codeZ p m mod N zs=4):=by(have g:lengthZ N=4:=by unfold lengthZ;rw[if_pos U0]);show _=_;unfold codeZ;rw[if_neg (by simp[hok]),if_pos (by rw[g];decide)]);clear hok;go_wp2;go_ret;exact⟨qaG f.o.symm,b.o.2.1⟩
     . (have f:zK (codeZ p m mod N zs=spZ p m mod N zs):=by(have n:lengthZ N=0:=by unfold lengthZ;rw[if_neg U0]);show _=_;unfold codeZ;rw[if_neg (by simp[hok]),if_neg (by rw[n];decide)]);have k:=zH (rspcheck_c p m mod B C N zs A c q ((j.o.keep b.o.2.1).more b.o.2.1.size) I ((r.o.keep b.o.2.1).more b.o.2.1.size) D U0);have d:=zH b.o.range3;clear hok j r;go_wp2_with (refine wpList_load_mid rfl 29 (.tmp 18) rfl w.heap.size 0 rfl (C5 p m B mod.length C) _ d.o underlying29 rfl fieldSize ?_);go_fit k.o;rintro e z ⟨rfl,hb2⟩;have l:=zH (b.o.grow hb2);clear hb2;go_wp2;go_ret;exact⟨qaG f.o.symm,l.o.2.1⟩
def BX(w:Wo)(cs:List Value)(t:TypeId)(W:Wo):Prop:=W.heap[w.heap.size]?=some (.cells cs.toArray t (0,0))/\zB w W/\w.heap.size<W.heap.size
section
variable {w:Wo} {cs:List Value} {t:TypeId} {W W':Wo}
theorem BX.grow(h:BX w cs t W)(f:zB W W'):BX w cs t W':=by obtain⟨b,c,d⟩:=h;exact⟨(f.block _ U0).trans b,c.trans (f.mono U0),Nat.lt_of_lt_of_le d f.size⟩
theorem BX.below(h:BX w cs t W):zB w W:=h.2.1
theorem BX.cell(h:BX w cs t W){k:Nat}{v:Value}(b:cs[k]?=some v):W.cell? (zA w.heap.size k)=some v:=by rw[cell_of_row W w.heap.size k _ _ _ h.1];simpa using b
theorem BX.range(h:BX w cs t W):W.rangeAt w.heap.size 0 cs:=qeS h.1
end
theorem bx_new(w:Wo)(cs:List Value)(t:TypeId):BX w cs t (w.alloc (.cells cs.toArray t)):=⟨heap_alloc_new _ _,zV.alloc zn _,U2⟩
def RelFewN(w:Wo)(cs:List Value)(t:TypeId)(n:Nat)(N:Int)(v5 v6:Value)(wr:Wo):Prop:=∃(k:Nat)(l:Int),k<=n/\0<=l/\l<=N/\v5=Y l/\v6=Y k/\BX w cs t wr
theorem rfewN_c(N:Int)(zs:List LI)(A:OA)(c:Nat)(w:Wo)(J:zR w A zs)(K:0<=N)(L:N<=1000000):
 zC 43 #[.agg #[Y 0,zL A zs.length c],Y N] w fun e w'=>∃b,e=.returned (.bool b)/\zB w w':=by
 have d:=zH (bx_new w [Y 0,zL A zs.length c] 54);have j:=zH J;clear J;go_enter func43,ntmps43;go_upto_region 1 with fail;generalize w.alloc (.cells #[Y 0,zL A zs.length c] 54)=g at *;have m:g.cell? (zA w.heap.size 0)=some (Y 0):=d.o.cell rfl;have h:g.cell? (zA w.heap.size 1)=some (zL A zs.length c):=d.o.cell rfl;by_cases E:N<(zs.length:Int)
 . go_wp2;go_ret;exact⟨_,rfl,d.o.below⟩
 have r:IntKind.i64.wrap (N-(zs.length:Int))=N-(zs.length:Int):=IntWalk.i64_in _ U0;go_wp2;go_loopw [5,6] (fun v5 v6 wr=>RelFewN w [Y 0,zL A zs.length c] 54 zs.length N v5 v6 wr) (fun _ v6 _=>zs.length-(intOf v6).toNat);case atStart=>exact⟨0,N-(zs.length:Int),U0,U0,U0,gn,rfl,d.o⟩
 case round =>
  clear m h d r;obtain⟨k,l,z,H,I,rfl,rfl,i⟩:=hrel;have d:=zH i;clear i;have h:wr.cell? (zA w.heap.size 1)=some (zL A zs.length c):=d.o.cell rfl;by_cases f:k<zs.length
  . obtain ⟨b,o,u,v,rfl,x,y,p⟩ := (j.o.keep d.o.below).at_ f;clear p;have q:(0:Int)<=((zs.getD k []).length:Int):=U0;generalize (zs.getD k []).length=n at *;have C:(0:Int)<=(k:Int):=U0;have D:(k:Int)<(zs.length:Int):=U0;by_cases B:l<(n:Int)
    . go_wp2;go_ret;exact⟨_,rfl,d.o.below⟩
    . have s : IntKind.i64.wrap (l - (n : Int)) = l - (n : Int):=IntWalk.i64_in _ U0;have t:IntKind.i64.wrap ((k:Int)+1)=(k:Int)+1:=IntWalk.i64_in _ U0;go_wp2;go_roundw;case rel=>exact⟨k+1,l-n,U0,U0,U0,gn,gn,d.o⟩
      case measure=>simp[intOf];omega
  . (obtain rfl:k=zs.length:=by omega);go_wp2;go_ret;exact⟨_,rfl,d.o.below⟩
theorem fewN_c(N:Int)(l v1 v2 m:Value)(zs:List LI)(A:OA)(c:Nat)(w:Wo)(n:zR w A zs)(p:0<=N)(q:N<=1000000):
 zC 24 #[.agg #[l,v1,v2,m,zL A zs.length c],Y N] w fun e w'=>∃b,e=.returned (.bool b)/\zB w w':=by have d:=zH (bx_new w [l,v1,v2,m,zL A zs.length c] 32);have h:=zH n;clear n;go_enter func24,ntmps24;go_upto_region 1 with fail;generalize w.alloc (.cells #[l,v1,v2,m,zL A zs.length c] 32)=g at *;have j:g.cell? (zA w.heap.size 4)=some (zL A zs.length c):=d.o.cell rfl;have i:=zH (rfewN_c N zs A c g ((h.o.keep d.o.below).more d.o.below.size) p q);go_wp2_with fail;go_fit i.o;rintro e k ⟨b,rfl,hb1⟩;have f:=zH (d.o.grow hb1);clear hb1;go_wp2;go_ret;exact⟨_,rfl,f.o.below⟩
theorem xfew_c(zs:List LI)(A:OA)(c:Nat)(w:Wo)(l:zR w A zs):
 zC 25 #[.agg #[zL A zs.length c]] w fun e w'=>∃b,e=.returned (.bool b)/\zB w w':=by have d:=zH (bx_new w [zL A zs.length c] 38);have h:=zH l;clear l;go_enter func25,ntmps25;go_upto_region 1 with fail;generalize w.alloc (.cells #[zL A zs.length c] 38)=g at *;have j:g.cell? (zA w.heap.size 0)=some (zL A zs.length c):=d.o.cell rfl;have i:=zH (rfewN_c 20000 zs A c g ((h.o.keep d.o.below).more d.o.below.size) dc dc);go_wp2_with fail;go_fit i.o;rintro e k ⟨b,rfl,hb1⟩;have f:=zH (d.o.grow hb1);clear hb1;go_wp2;go_ret;exact⟨_,rfl,f.o.below⟩
theorem rwt_append:∀ u v:LN,Dv.wt (u++v)=Dv.wt u+Dv.wt v
 |[],v=>by simp[Dv.wt]
 |x :: r,v=>by
   show(if x=0 then 0 else 1)+Dv.wt (r++v)=(if x=0 then 0 else 1)+Dv.wt r+Dv.wt v
   rw[rwt_append r v,Nat.add_assoc]
theorem rwt_take{v:LN}{j:Nat}(b:j<v.length):Dv.wt (v.take (j+1))=Dv.wt (v.take j)+if v.getD j 0=0 then 0 else 1:=by
 rw[List.take_add_one,List.getElem?_eq_getElem b,rwt_append];have e:v.getD j 0=v[j]:=by simp[List.getD,b]
 rw[e];simp[Dv.wt]
theorem rwt_le:∀ v:LN,Dv.wt v<=v.length
 |[]=>by simp[Dv.wt]
 |x :: r=>by
   have:=rwt_le r
   unfold Dv.wt
   rw[List.length_cons]
   split<;>omega
def RelWg(v:LN)(w:Wo)(v3 v4:Value)(wr:Wo):Prop:=∃k:Nat,k<=v.length/\v4=Y k/\v3=Y ((Dv.wt (v.take k):Nat):Int)/\wr=w
def RelEx(q k:Nat)(w:Wo)(v8 v9:Value)(wr:Wo):Prop:=∃i:Nat,i<=k/\v9=Y i/\v8=Y ((q^i:Nat):Int)/\q^i<=65536/\wr=w
theorem weight_c(v:LN)(A:OA)(c:Nat)(w:Wo)(t:zI w A (nz v))(u:v.length<=1000):
 zC 11 #[zL A v.length c] w fun e w'=>e=.returned (Y ((Dv.wt v:Nat):Int))/\w=w':=by
 have i:=zH t;clear t;go_enter func11,ntmps11;go_wp2;go_loopw [3,4] (fun v3 v4 wr=>RelWg v w v3 v4 wr) (fun _ v4 _=>v.length-(intOf v4).toNat);case atStart=>exact⟨0,U0,rfl,rfl,rfl⟩
 case round =>
  obtain⟨k,q,rfl,rfl,rfl⟩:=hrel;have m:Dv.wt (v.take k)<=1000:=Nat.le_trans (rwt_le _) (by rw[List.length_take];omega);by_cases f:k<v.length
  . obtain ⟨b,o,rfl,p,h⟩ := i.o.at_ (k := k) (by rw [qaA];exact f);rw [qaC] at h;have d:=zH (rwt_take f);have r:(0:Int)<=(k:Int):=U0;have s:(k:Int)<(v.length:Int):=U0;have j:IntKind.i64.wrap ((k:Int)+1)=(k:Int)+1:=IntWalk.i64_in _ U0;have l:IntKind.i64.wrap (((Dv.wt (v.take k):Nat):Int)+1)=((Dv.wt (v.take k):Nat):Int)+1:=IntWalk.i64_in _ U0;by_cases g:v.getD k 0=0
    . rw[if_pos g] at d;rw[g] at h;clear g;go_wp2;go_roundw;case rel=>exact⟨k+1,U0,gn,by rw[d.o];rfl,rfl⟩
      case measure=>simp[intOf];omega
    . rw[if_neg g] at d;(have n:(((v.getD k 0:Nat):Int) != 0)=true:=by simpa using g);generalize v.getD k 0=x at *;go_wp2;go_roundw;case rel=>exact⟨k+1,U0,gn,by rw[d.o];go_num,rfl⟩
      case measure=>simp[intOf];omega
  . (obtain rfl:k=v.length:=by omega);rw[List.take_length];go_wp2;go_ret;exact⟨rfl,rfl⟩
def inV(p m x:Int):Int:=if inB (orderM p m) x=true then x else 0
theorem rinG_c(p m:Int)(A:OA)(n c:Nat)(x:Int)(w:Wo):zC 22 #[C7 p m A n c,Y x] w fun e w'=>e=.returned (Y (inV p m x))/\zB w w':=by
 have g:=zH (bx_new w (C5 p m A n c) 29);go_enter func22,ntmps22;go_upto_region 1 with fail;generalize w.alloc (C3 p m A n c)=i at *;have b:=zH g.o.range;have f:=zH (ris_c p m A n c x i);cases hbb:inB (orderM p m) x;all_goals rw[hbb] at f
 . (have h:zK (inV p m x=0):=by show _=_;unfold inV;rw[hbb];rfl);clear hbb;go_wp2_with (refine wpList_load_mid rfl 29 (.tmp 2) rfl w.heap.size 0 rfl (C5 p m A n c) _ b.o underlying29 rfl fieldSize ?_);refine f.o.mono ?_;rintro e j ⟨rfl,hb1⟩;have d:=zH (g.o.grow hb1);clear hb1 f g b;go_wp2;go_ret;exact⟨qaG (by rw[h.o]),d.o.below⟩
 . (have h:zK (inV p m x=x):=by show _=_;unfold inV;rw[hbb];rfl);clear hbb;go_wp2_with (refine wpList_load_mid rfl 29 (.tmp 2) rfl w.heap.size 0 rfl (C5 p m A n c) _ b.o underlying29 rfl fieldSize ?_);refine f.o.mono ?_;rintro e j ⟨rfl,hb1⟩;have d:=zH (g.o.grow hb1);clear hb1 f g b;go_wp2;go_ret;exact⟨qaG (by rw[h.o]),d.o.below⟩
def expV(q k:Nat):Int:=if q^k<=65536 then((q^k:Nat):Int) else 0
def expE(q k:Nat):Int:=if q^k<=65536 then 0 else 8
theorem tdiv_natE(a b:Nat):Int.tdiv (a:Int) (b:Int)=((a / b:Nat):Int):=rfl
theorem exp_c(q k:Nat)(O:2<=q)(M:q<=256)(N:k<=1000)(w:Wo):
 zC 89 #[Y q,Y k,Y 65536] w fun e w'=>e=.returned (.tuple #[Y (expV q k),Y (expE q k)])/\w=w':=by
 have E:¬(q:Int)<0:=U0;have H:¬(k:Int)<0:=U0;have I:((q:Int)==0)=false:=beq_false_of_ne U0;have J:(1:Int)<(q:Int):=U0;have y:¬(q:Int)=0:=U0;have A:¬q=0:=U0;have x:Int.tdiv 65536 (q:Int)=((65536 / q:Nat):Int):=tdiv_natE 65536 q;have v:65536 / q<=65536:=Nat.div_le_self _ _;have g:∀a:Nat,a<=65536 / q ↔ a*q<=65536:=fun a=>Nat.le_div_iff_mul_le U0;generalize 65536 / q=c at *;have D:IntKind.i64.wrap (c:Int)=(c:Int):=IntWalk.i64_in _ U0;have b:=zH g;clear g;go_enter func89,ntmps89;go_wp2;go_loopw [8,9] (fun v8 v9 wr=>RelEx q k w v8 v9 wr) (fun _ v9 _=>k-(intOf v9).toNat);case atStart=>exact⟨0,U0,rfl,U2,U2,rfl⟩
 case round =>
  obtain⟨i,K,rfl,rfl,j,rfl⟩:=hrel;by_cases p:i<k
  . (have L : (i : Int) < (k : Int) := by omega);have B:IntKind.i64.wrap ((i:Int)+1)=(i:Int)+1:=IntWalk.i64_in _ U0;have l:=b.o (q ^ i);rw [<- Nat.pow_succ] at l;by_cases r:q ^ i<=c
    . (have d : ¬(c : Int)< ((q^i : Nat): Int):=by omega);have s:=l.1 r;(have C:IntKind.i64.wrap (((q^i:Nat):Int)*(q:Int))=((q^(i+1):Nat):Int):=by rw[<- Int.natCast_mul,<- Nat.pow_succ];exact IntWalk.i64_in _ U0);have t:=zH s;clear l s;generalize q^i=z at *;go_wp2;go_roundw;case rel=>exact⟨i+1,U0,gn,U2,t.o,rfl⟩
      case measure=>simp[intOf];omega
    . (have d : (c : Int) < ((q ^ i : Nat) : Int) := by omega);have f:65536<q ^ k:=by
       have u:65536<q^(i+1):=by
        rcases Nat.lt_or_ge 65536 (q^(i+1)) with h|h
        . exact h
        . exact absurd (l.2 h) r
       exact Nat.lt_of_lt_of_le u (Nat.pow_le_pow_right U0 p)
      have n:zK (expV q k=0):=if_neg U0;have m:zK (expE q k=8):=if_neg U0;clear l f;generalize q^i=z at *;go_wp2;go_ret2;rw[n.o,m.o];exact⟨rfl,rfl⟩
  . (obtain rfl:i=k:=by omega);have n:zK (expV q i=((q^i:Nat):Int)):=if_pos j;have m:zK (expE q i=0):=if_pos j;have d:¬(65536:Int)<((q^i:Nat):Int):=U0;clear b;generalize q^i=z at *;go_wp2;go_ret2;rw[n.o,m.o];exact⟨rfl,rfl⟩
def szV(p m:Int)(mod:LI)(N:Int)(zs:List LI):Int:=if codeZ p m mod N zs≠0 then 0 else expV (p.toNat^m.toNat) zs.length
def szE(p m:Int)(mod:LI)(N:Int)(zs:List LI):Int:=if codeZ p m mod N zs≠0 then codeZ p m mod N zs else expE (p.toNat^m.toNat) zs.length
theorem size_c2(p m:Int)(mod:LI)(Q:OA)(R:Nat)(N:Int)(zs:List LI)(A:OA)(c:Nat)(w:Wo)(U:zI w Q mod)(V:mod.length<=9223372036854775807)(T:zR w A zs)(S:zs.length<=1000):
 zC 39 #[C8 p m Q mod.length R N A zs.length c] w fun e w'=>e=.returned (.tuple #[Y (szV p m mod N zs),Y (szE p m mod N zs)])/\zB w w':=by
 have g:=zH (bx_new w (C2 p m Q mod.length R N A zs.length c) 32);have C:=zH U;have z:=zH T;clear U T;go_enter func39,ntmps39;go_upto_region 1 with fail;generalize w.alloc (C4 p m Q mod.length R N A zs.length c)=H at *;have n:=zH g.o.range;have B:=zH (rcodecheck_c p m mod Q R N zs A c H ((C.o.keep g.o.below).more g.o.below.size) V ((z.o.keep g.o.below).more g.o.below.size) U0);clear C z;go_wp2_with (refine wpList_load_mid rfl 32 (.tmp 1) rfl w.heap.size 0 rfl (C2 p m Q mod.length R N A zs.length c) _ n.o underlying32 rfl codeSize ?_);refine B.o.mono ?_;rintro e M ⟨rfl,hb1⟩;have i:=zH (g.o.grow hb1);clear hb1 B g n;by_cases f:codeZ p m mod N zs=0
 . have x : zK (szV p m mod N zs = expV (p.toNat ^ m.toNat) zs.length) := if_neg (fun h => h f);have v:zK (szE p m mod N zs=expE (p.toNat ^ m.toNat) zs.length):=if_neg (fun h=>h f);have b:=field_ft (codeZ_n f).1;(have k:((p.toNat:Nat):Int)=p/\((m.toNat:Nat):Int)=m:=by have K:=b.small.p1;have L:=b.small.m1;omega);have s:2<=p.toNat ^ m.toNat:=Nat.le_trans b.small.p1 (Nat.le_self_pow (by have:=b.small.m1;omega) _);have t:=b.small.q;(have E:orderM p m=((p.toNat ^ m.toNat:Nat):Int):=by have h:=qbX b.small.p1 b.small.p2 b.small.m1 b.small.m2;rw [k.1,k.2] at h;rw [h,if_neg U0]);(have D:zK (∀ W,zC 33 #[C7 p m Q mod.length R] W fun e w'=>e=.returned (Y ((p.toNat ^ m.toNat:Nat):Int))/\zB W w'):=fun W=>by rw [<- E];exact rorder_c p m Q mod.length R W);(have l:=zH<|fun W=>exp_c _ _ s t S W);rw [f];clear f b k s t E;generalize p.toNat ^ m.toNat=q at *;generalize expV q zs.length=ev at *;generalize expE q zs.length=J at *;go_upto_region 4 with fail;refine qaD (BX w (C2 p m Q mod.length R N A zs.length c) 32) U1 U1 (i.o.grow zV.drew) ?_
   repeat (first
    | (refine keep_load_mid rfl 29 (.tmp 10) rfl w.heap.size 0 rfl (C5 p m Q mod.length R) _ (fun W d => fun j u hu => by
        match j,hu with
        |0,hu=>exact d.range 0 u hu
        |1,hu=>exact d.range 1 u hu
        |2,hu=>exact d.range 2 u hu
        |j+3,hu=>simp at hu) underlying29 rfl fieldSize ?_
       go_simp)
    | (apply qaJ rfl
       . intro W d
         have P:W.cell? (zA w.heap.size 4)=some (zL A zs.length c):=d.cell rfl
         go_simp
         try rfl
       go_simp)
    | (apply qaO rfl
       . intro W d
         go_simp
         exact⟨rfl,rfl⟩
       . intro W d
         first
          |exact(D.o W).mono (by rintro e w' ⟨rfl,hb⟩;exact⟨rfl,d.grow hb⟩)
          |exact(l.o W).mono (by rintro e w' ⟨rfl,rfl⟩;exact⟨rfl,d⟩)
       go_simp))
   refine qaE ?_;intro O r;have y:=zH r;clear r i D l;go_wp2;go_ret2;rw[x.o,v.o];exact⟨rfl,y.o.below⟩
 . have x:zK (szV p m mod N zs=0):=if_pos f;have v:zK (szE p m mod N zs=codeZ p m mod N zs):=if_pos f;have I:=bne_iff_ne.2 f;go_wp2;go_ret2;rw[x.o,v.o];exact⟨rfl,i.o.below⟩
def cnV(p m:Int)(mod:LI)(N:Int)(zs:List LI)(most:Int):Int:=if szE p m mod N zs≠0\/most<szV p m mod N zs then 0 else szV p m mod N zs
theorem count_c(p m:Int)(mod:LI)(x:OA)(y:Nat)(N:Int)(zs:List LI)(A:OA)(c:Nat)(v:Int)(w:Wo)(C:zI w x mod)(D:mod.length<=9223372036854775807)(B:zR w A zs)(z:zs.length<=1000):
 zC 20 #[C8 p m x mod.length y N A zs.length c,Y v] w fun e w'=>e=.returned (Y (cnV p m mod N zs v))/\zB w w':=by
 have d:=zH (bx_new w (C2 p m x mod.length y N A zs.length c) 32);have q:=zH C;have l:=zH B;clear C B;go_enter func20,ntmps20;go_upto_region 1 with fail;generalize w.alloc (C4 p m x mod.length y N A zs.length c)=s at *;have j:=zH d.o.range;have n:=zH (size_c2 p m mod x y N zs A c s ((q.o.keep d.o.below).more d.o.below.size) D ((l.o.keep d.o.below).more d.o.below.size) z);have g:zK (cnV p m mod N zs v=if szE p m mod N zs≠0\/v<szV p m mod N zs then 0 else szV p m mod N zs):=rfl;clear q l;generalize szE p m mod N zs=t at *;generalize szV p m mod N zs=ev at *;go_wp2_with (refine wpList_load_mid rfl 32 (.tmp 2) rfl w.heap.size 0 rfl (C2 p m x mod.length y N A zs.length c) _ j.o underlying32 rfl codeSize ?_);refine n.o.mono ?_;rintro e u ⟨rfl,hb1⟩;have f:=zH (d.o.grow hb1);clear hb1 n d j;by_cases i:t=0
 . have k:=bne_eq_false_iff_eq.2 i;by_cases r:v<ev
   . (have b:zK (cnV p m mod N zs v=0):=by show _=_;rw[g.o,if_pos (.inr r)]);clear i g;go_wp2;go_ret;exact⟨qaG (by rw[b.o]),f.o.below⟩
   . (have b:zK (cnV p m mod N zs v=ev):=by show _=_;rw[g.o,if_neg (fun h=>h.elim (fun h=>h i) r)]);clear i g;go_wp2;go_ret;exact⟨qaG (by rw[b.o]),f.o.below⟩
 . have k:=bne_iff_ne.2 i;(have b:zK (cnV p m mod N zs v=0):=by show _=_;rw[g.o,if_pos (.inl i)]);clear g;go_wp2;go_ret;exact⟨qaG (by rw[b.o]),f.o.below⟩
end Go.Proofs.YtocbdafcolbfeaaGreat
namespace Go.Proofs.YtocbdafcolbfeaaGreat
open Go.RowKit Pln
def LSc(w:Wo)(p m:Nat)(A:OA)(n c bm om bh oh k x:Nat)(v:Value)(W:Wo):Prop:=
 BX w (C5 p m A n c) 29 W/\W.cell? (zA bm (om+k))=some (Y x)/\W.cell? (zA bh (oh+k))=some v
theorem LSc.keep{w:Wo}{p m:Nat}{A:OA}{n c d i b g k x:Nat}{v:Value}{W j:Wo}(h:LSc w p m A n c d i b g k x v W)(f:zB W j):LSc w p m A n c d i b g k x v j:=
 ⟨h.1.grow f,(f.cell (p:=(zA d (i+k))) (World.block_lt_of_cell? W _ h.2.1)).trans h.2.1,(f.cell (p:=(zA b (g+k))) (World.block_lt_of_cell? W _ h.2.2)).trans h.2.2⟩
def RelCb(w:Wo)(p m:Nat)(A:OA)(n c:Nat)(O:Ops)(q:Nat)(msg:LN)(rows:LL)(cols:Nat)(v9 v10:Value)(wr:Wo):Prop:=
 ∃(k g:Nat)(u:LN),k<=rows.length/\v10=Y k/\v9=zS g cols cols/\BX w (C5 p m A n c) 29 wr/\Row wr w.heap.size g cols (nz u)/\u.length=cols/\(∀x∈u,x<q)/\Dv.combO O u (msg.drop k) (rows.drop k)=Dv.combO O (List.replicate cols 0) msg rows
theorem combO_step{O:Ops}{u d:LN}{rows:LL}{k:Nat}(f:k<d.length)(g:k<rows.length){r:LN}(h:Dv.combO O u (d.drop k) (rows.drop k)=r):
 Dv.combO O (if d.getD k 0=0 then u else addRow O u (d.getD k 0) (rows.getD k [])) (d.drop (k+1)) (rows.drop (k+1))=r:=by
 rw[List.drop_eq_getElem_cons f,List.drop_eq_getElem_cons g] at h;unfold Dv.combO at h;have b:d.getD k 0=d[k]:=by simp[List.getD,f]
 have c:rows.getD k []=rows[k]:=by simp[List.getD,g]
 rw[b,c];exact h
theorem row_ints{w:Wo}{B g c:Nat}{zs:LI}(h:Row w B g c zs):zI w (zO g) zs:=fun _=>⟨g,0,rfl,h.lt.2,fun j hj=>by rw[Nat.zero_add];exact h.cell hj⟩
end Go.Proofs.YtocbdafcolbfeaaGreat
namespace Go.Proofs.YtocbdafcolbfeaaGreat
open Go.RowKit Pln Tryz
theorem rcombine_c(p m:Nat)(md:LN)(A:OA)(n c:Nat)(ay:LN)(rows:LL)(Am:OA)(cm:Nat)(Ah:OA)(ch cols:Nat)(w:Wo)(hR:RFld p m md A n w.heap.size w)(hf:∃ l,FT p m md l)(hM:zI w Am (nz ay))(a0:∀ x∈ay,x<p ^ m)(hA:zR w Ah (nzs rows))(az:Grid (p ^ m) rows.length cols rows)(hl:ay.length=rows.length)(hc:cols<=256)(hn:rows.length<=256):
 zC 23 #[C7 p m A n c,zL Am ay.length cm,zL Ah rows.length ch,Y cols] w fun e w'=>(∃g,e=.returned (zS g cols cols)/\Row w' w.heap.size g cols (nz (Dv.combO (refOps p m md) (List.replicate cols 0) ay rows))/\(Dv.combO (refOps p m md) (List.replicate cols 0) ay rows).length=cols/\∀x∈Dv.combO (refOps p m md) (List.replicate cols 0) ay rows,x<p^m)/\zB w w':=by
 have y:=zH (bx_new w (C5 p m A n c) 29);have HM:=zH hM;have HA:=zH hA;have HG:=zH az;have HE:=zH (qeI hR hf);have av:0<p^m:=Nat.pow_pos (by have:=hR.small.p1;omega);have V:zK (∀k,k<rows.length->ay.getD k 0<p^m):=fun k hk=>by
  have ag:k<ay.length:=U0;have:ay.getD k 0=ay[k]:=by simp[List.getD,ag]
  rw[this];exact a0 _ (List.getElem_mem ag)
 have I:zK (∀(a:Nat)(v u:LN)(Av Au:OA)(cv cu:Nat)(W:Wo),a<p^m->(∀x∈v,x<p^m)->(∀x∈u,x<p^m)->v.length=cols->u.length=cols->zI W Av (nz v)->zI W Au (nz u)->zB w W->
  zC 42 #[C7 p m A n c,zL Av cols cv,Y a,zL Au cols cu] W fun e w'=>(∃g,e=.returned (zS g cols cols)/\Row w' W.heap.size g cols (nz (addRow (refOps p m md) v a u)))/\zB W w'):=fun a v u Av Au cv cu W ha hv hu h1 h2 hA hU j=>by
  subst h1
  exact raddto_c p m md A n c a v u Av Au cv cu W ((hR.keep j).more j.size) ha hv hu h2.symm hA hU U0
 obtain⟨i0,hi,aj,ak,al⟩:=qaF infoInt;have HI:=zH hi;have ac:=zH aj;have ad:=zH ak;have R:=zH (show i0.bytes*cols<=281474976710656 by rw[al];omega);have S:=zH (show cols<=maxLen by unfold maxLen;omega);clear hM hA az hR hf a0 hi aj ak al;generalize refOps p m md=O at *;generalize p^m=q at *;go_enter func23,ntmps23;go_upto_region 1 with fail;have L:w.heap.size<=(w.alloc (C3 p m A n c)).heap.size:=U2;generalize w.alloc (C3 p m A n c)=W0 at *;go_wp2_with (refine wpList_make_full W0 rfl (.tmp 11) (.tmp 11) 23 rfl w.heap.size 3 i0 (Y 0) 1 underlying23 HI.o ac.o ad.o .i64 .i64 cols cols cols rfl rfl rfl rfl R.o S.o L ?_;intro w1 J az);have ae:=qaL az;have ah:=Row.of_make J;have aa:zK (RelCb w p m A n c O q ay rows cols (zS W0.heap.size cols cols) (Y ((0:Nat):Int)) w1):=⟨0,_,List.replicate cols 0,Nat.zero_le _,rfl,rfl,y.o.grow ae,ah,U2,fun x hx=>by rw[List.mem_replicate] at hx;omega,rfl⟩;clear J az ae ah L y HI ac ad R S;generalize W0.heap.size=go at *;have au:=hl;clear hl;have ar:((ay.length:Nat):Int)=(rows.length:Int):=U0;go_wp2;go_loopw [9,10] (fun v9 v10 wr=>RelCb w p m A n c O q ay rows cols v9 v10 wr) (fun _ v10 _=>rows.length-(intOf v10).toNat);case atStart=>exact aa.o
 case round =>
  obtain⟨k,g,u,hk,rfl,rfl,hx,K,E,ai,af⟩:=hrel;have y:=zH hx;have HR:=zH K;have t:=zH ai;have T:=zH af;clear hx K ai af aa;by_cases B:k<rows.length
  . (have k0 : (0 : Int) <= (k : Int) := by omega);have k1:(k:Int)<(rows.length:Int):=U0;have k2:(k:Int)<(ay.length:Int):=U0;have aw:IntKind.i64.wrap ((k:Int)+1)=(k:Int)+1:=IntWalk.i64_in _ U0;obtain ⟨bm,om,rfl,aq,N⟩:=(HM.o.keep y.o.below).at_ (k:=k) (by rw [qaA];omega);obtain ⟨bh,oh,P,ci,rfl,ap,M,z⟩:=(HA.o.keep y.o.below).at_ (i:=k) (by rw [nzs_len];exact B);rw [qaC] at N;rw [nzs_getD] at M z;obtain ⟨C,D⟩:=HG.o.row B;rw [qaA,C] at M;have s:=zH (combO_step U0 B T.o);have H:=V.o k B;by_cases f:ay.getD k 0=0
    . rw[if_pos f] at s;rw[f] at N;clear f H D C z;go_wp2;go_roundw;case rel=>exact⟨k+1,g,u,U0,gn,rfl,y.o,HR.o,E,t.o,s.o⟩
      case measure=>simp[intOf];omega
    . rw [if_neg f] at s;(have ax:(((ay.getD k 0:Nat):Int) != 0)=true:=by rw [bne_iff_ne];omega);(have HN:=zH<|(qdB HE.o H t.o D).2);(have an:zK ((addRow O u (ay.getD k 0) (rows.getD k [])).length=cols):=by show _=_;rw [qbU _ _ _ _ U0];exact E)
      have Q:zK (∀W,LSc w p m A n c bm om bh oh k (ay.getD k 0) (zL P cols ci) W->Row W w.heap.size g cols (nz u)->zI W P (nz (rows.getD k []))->zC 42 #[C7 p m A n c,zS g cols cols,Y ((ay.getD k 0:Nat):Int),zL P cols ci] W fun e w'=>(∃g,e=.returned (zS g cols cols)/\Row w' W.heap.size g cols (nz (addRow O u (ay.getD k 0) (rows.getD k []))))/\zB W w'):=fun W j hr hi2=>
       I.o _ u _ _ _ cols ci W H t.o D E C (row_ints hr) hi2 j.1.below
      have Z:zK (LSc w p m A n c bm om bh oh k (ay.getD k 0) (zL P cols ci) wr.drew):=⟨y.o.grow zV.drew,N,M⟩;have U:zK (IntsAt wr.drew wr.drew.heap.size P (nz (rows.getD k []))):=(z.more y.o.below.size).grow zn (Below.refl _ wr).drew;have X:=zH (HR.o.below (Below.refl _ wr).drew HR.o.lt.2);clear f H D C z I HE V;generalize addRow O u (ay.getD k 0) (rows.getD k [])=u2 at *;generalize rows.getD k []=r at *;generalize ay.getD k 0=x at *;go_upto_region 6 with fail;refine qaS 11 11 (LSc w p m A n c bm om bh oh k x (zL P cols ci)) [(0,0),(1,1),(1,2),(1,3),(1,4),(0,5),(1,6),(1,7),(1,8),(0,9),(2,10)] default U1 U1 (fun _ _ d _ _ h=>by cases d<;>exact h) Z.o ?_;generalize wr.drew=Wd at *;simp only[List.map_cons,List.map_nil,List.getD_cons_zero,List.getD_cons_succ];refine qaT rfl 29 (.tmp 4) rfl w.heap.size 0 rfl (C5 p m A n c) _ (fun W j=>j.1.range) underlying29 rfl fieldSize ?_;go_simp
      iterate 4
       apply qaM rfl
       . intro W
         go_simp
         rfl
       go_simp
      apply qbF rfl
      . intro W j;have z0:=j.2.1;go_simp;rfl
      go_simp
      iterate 3
       apply qaM rfl
       . intro W
         go_simp
         rfl
       go_simp
      apply qbF rfl
      . intro W j;have z0:=j.2.2;go_simp;rfl
      go_simp;apply qbE rfl
      . go_simp;exact⟨rfl,rfl⟩
      (with_reducible refine(Q.o Wd Z.o X.o U.o).mono ?_);rintro e w2 ⟨⟨g2,rfl,hr2⟩,hb2⟩;have ab:=zH (Z.o.keep hb2);have ao:=zH (hr2.base (Nat.le_trans Z.o.1.below.size hr2.lt.1));refine⟨_,rfl,ab.o,?_⟩;go_simp;refine qbH ?_;show wpList _ _ _ _ _ _;go_simp;clear hb2 hr2 Z X U Q;go_wp2;go_roundw;case rel=>exact⟨k+1,g2,u2,U0,gn,rfl,ab.o.1,ao.o,an.o,HN.o,s.o⟩
      case measure=>simp[intOf];omega
  . (obtain rfl:k=rows.length:=by omega);(have b:zK (u=Dv.combO O (List.replicate cols 0) ay rows):=by have:=T.o;rw[List.drop_eq_nil_of_le zn] at this;rw[<- this];show u=Dv.combO O u _ [];cases List.drop rows.length ay<;>rfl);go_wp2;go_ret;exact⟨⟨g,rfl,by rw[<- b.o];exact HR.o,by rw[<- b.o];exact E,by rw[<- b.o];exact t.o⟩,y.o.below⟩
structure RCode (p m:Nat) (md:LN) (A:OA) (n cols:Nat) (rows:LL) (Ah:OA) (w:Wo):Prop where
 fld:RFld p m md A n w.heap.size w
 ft:∃l,FT p m md l
 at_:zR w Ah (nzs rows)
 grid:Grid (p^m) rows.length cols rows
 n1:1<=cols
 n2:cols<=64
 len:rows.length<=256
def cwO(p m:Nat)(md:LN)(cols:Nat)(rows:LL)(msg:LN):LN:=Dv.combO (refOps p m md) (List.replicate cols 0) msg rows
section
variable {p m:Nat} {md:LN} {A:OA} {n cols:Nat} {rows:LL} {Ah:OA} {w W:Wo}
theorem RCode.lift(h:RCode p m md A n cols rows Ah w)(b:zB w W):RCode p m md A n cols rows Ah W:=
 ⟨(h.fld.keep b).more b.size,h.ft,(h.at_.keep b).more b.size,h.grid,h.n1,h.n2,h.len⟩
theorem RCode.q2(h:RCode p m md A n cols rows Ah w):2<=p^m/\p^m<=256:=
 ⟨Nat.le_trans h.fld.small.p1 (Nat.le_self_pow (by have:=h.fld.small.m1;omega) _),h.fld.small.q⟩
theorem RCode.order(h:RCode p m md A n cols rows Ah w)(c:Nat)(W:Wo):zC 33 #[C7 p m A n c] W fun e w'=>e=.returned (Y ((p^m:Nat):Int))/\zB W w':=by have d:=h.fld.small.q;have b:=qbX h.fld.small.p1 h.fld.small.p2 h.fld.small.m1 h.fld.small.m2;rw[if_neg U0] at b;rw[<- b];exact rorder_c p m A n c W
theorem RCode.comb(h:RCode p m md A n cols rows Ah w)(d:LN)(f:OA)(c k j:Nat)(o:zI w f (nz d))(i:∀x∈d,x<p^m)(l:d.length=rows.length):
 zC 23 #[C7 p m A n c,zL f rows.length k,zL Ah rows.length j,Y cols] w fun e w'=>(∃g,e=.returned (zS g cols cols)/\Row w' w.heap.size g cols (nz (cwO p m md cols rows d))/\(cwO p m md cols rows d).length=cols/\∀x∈cwO p m md cols rows d,x<p^m)/\zB w w':=by have b:=h.n2;have:=rcombine_c p m md A n c d rows f k Ah j cols w h.fld h.ft o i h.at_ h.grid l U0 h.len;rw[l] at this;exact this
end
section
variable {w:Wo} {cs:List Value} {t:TypeId} {W:Wo}
theorem BX.wrote(h:BX w cs t W){g k:Nat}(b:w.heap.size<g)(u:Value):BX w cs t (W.setCell (zA g k) u):=
 ⟨(Below.heap_setCell W (zA g k) u w.heap.size (by show w.heap.size≠g;omega)).trans h.1,h.2.1.setCell (p:=(zA g k)) (Nat.le_of_lt b) u,by simpa using h.2.2⟩
theorem BX.field{a b c:Value}{l:List Value}(h:BX w (a :: b :: c :: l) t W):W.rangeAt w.heap.size 0 [a,b,c]:=fun j u hu=>by
 match j,hu with
 |0,hu=>exact h.range 0 u hu
 |1,hu=>exact h.range 1 u hu
 |2,hu=>exact h.range 2 u hu
 |j+3,hu=>simp at hu
end
theorem i64_nat{x:Nat}(h:x<=65536):IntKind.i64.wrap (x:Int)=(x:Int):=IntWalk.i64_in _ U0
def RelAtt(w:Wo)(cs:List Value)(g k q i0:Nat)(v1 v7:Value)(wr:Wo):Prop:=
 ∃(j n':Nat)(t:LN),v1=Y n'/\v7=Y ((j:Int)-1)/\n'<=i0/\t.length+j=k/\Dv.digsBE q j n'++t=Dv.digsBE q k i0/\BX w cs 32 wr/\Row wr (w.heap.size+1) g k (nz (List.replicate j 0++t))
theorem rep_set(j x:Nat)(t:LN):(List.replicate (j+1) 0++t).set j x=List.replicate j 0++(x :: t):=by rw[List.replicate_succ',List.append_assoc,List.set_append];simp
theorem at_c{p m:Nat}{md:LN}{A:OA}{n cols:Nat}{rows:LL}{Ah:OA}{w:Wo}(h:RCode p m md A n cols rows Ah w)(c ch i:Nat)(hi:i<=65536):
 zC 40 #[C8 p m A n c cols Ah rows.length ch,Y i] w fun e w'=>(∃g,e=.returned (zS g cols cols)/\Row w' w.heap.size g cols (nz (cwO p m md cols rows (Dv.digsBE (p^m) rows.length i)))/\(cwO p m md cols rows (Dv.digsBE (p^m) rows.length i)).length=cols)/\zB w w':=by
 have f:=zH (bx_new w (C2 p m A n c cols Ah rows.length ch) 32);have HO:=zH<|fun W=>h.order c W
 have ak:=h.len;obtain⟨q2,q3⟩:=h.q2
 have HC:zK (∀(msg:LN)(g:Nat)(W:Wo),zB w W->Row W (w.heap.size+1) g rows.length (nz msg)->(∀x∈msg,x<p^m)->msg.length=rows.length->zC 23 #[C7 p m A n c,zS g rows.length rows.length,zL Ah rows.length ch,Y cols] W fun e w'=>(∃g,e=.returned (zS g cols cols)/\Row w' W.heap.size g cols (nz (cwO p m md cols rows msg))/\(cwO p m md cols rows msg).length=cols/\∀x∈cwO p m md cols rows msg,x<p^m)/\zB W w'):=fun msg g W hW hr hm hl=>
  (h.lift hW).comb msg _ c _ ch (row_ints hr) hm hl
 obtain⟨i0,S,U,V,X⟩:=qaF infoInt;have HI:=zH S;have N:=zH U;have O:=zH V;have H:=zH (show i0.bytes*rows.length<=281474976710656 by rw[X];omega);have s:=zH (show rows.length<=maxLen by unfold maxLen;omega);clear h S U V X;generalize cwO p m md cols rows=cw at *;generalize p^m=q at *;generalize rows.length=k at *;have ar:((q:Int)==0)=false:=beq_false_of_ne U0;have an:¬(q:Int)=0:=U0;have ao:¬q=0:=U0;go_enter func40,ntmps40;go_upto_region 1 with fail;have B:w.heap.size+1<=(w.alloc (C4 p m A n c cols Ah k ch)).heap.size:=U2;generalize w.alloc (C4 p m A n c cols Ah k ch)=W0 at *;have u:=zH f.o.field;have J:=zH (HO.o W0);go_wp2_with (refine wpList_load_mid rfl 29 (.tmp 8) rfl w.heap.size 0 rfl (C5 p m A n c) _ u.o underlying29 rfl fieldSize ?_);refine J.o.mono ?_;rintro e Z ⟨rfl,d⟩;have E:=zH (f.o.grow d);have l:=Nat.le_trans B d.size;have c4:Z.cell? (zA w.heap.size 4)=some (zL Ah k ch):=E.o.cell rfl;clear d f u J HO;clear B;clear W0;go_wp2_with (refine wpList_make_full Z rfl (.tmp 13) (.tmp 13) 23 rfl (w.heap.size+1) 3 i0 (Y 0) 1 underlying23 HI.o N.o O.o .i64 .i64 k k k rfl rfl rfl rfl H.o s.o l ?_;intro w2 y R);have d:=qaL R;have T:=Row.of_make y;have ax:IntKind.i64.wrap ((k:Int)-1)=(k:Int)-1:=IntWalk.i64_in _ U0;have M:zK (RelAtt w (C2 p m A n c cols Ah k ch) Z.heap.size k q i (Y (i:Int)) (Y ((k:Int)-1)) w2):=⟨k,i,[],rfl,rfl,Nat.le_refl _,U2,U2,E.o.grow d,by rw[List.append_nil];exact T⟩;clear y R d T E HI N O H s c4;have ae:zK (w.heap.size<Z.heap.size):=l;clear l;generalize Z.heap.size=go at *;go_wp2;go_loopw [1,7] (fun v1 v7 wr=>RelAtt w (C2 p m A n c cols Ah k ch) go k q i v1 v7 wr) (fun _ v7 _=>(intOf v7+1).toNat);case atStart=>exact M.o
 case round=>
  obtain⟨j,b,t,rfl,rfl,aq,au,Q,hx,z⟩:=hrel;have f:=zH hx;have K:=zH z;have HD:=zH Q;clear hx z Q M;cases j with
  |succ j=>
   have ej:((j+1:Nat):Int)-1=(j:Int):=U0;rw[ej];have al:=qaY b q;have aj:Int.tdiv (b:Int) (q:Int)=((b / q:Nat):Int):=rfl;have ap:b / q<=b:=Nat.div_le_self _ _;have j0:(0:Int)<=(j:Int):=U0;have j1:(j:Int)<(k:Int):=U0;have av:IntKind.i64.wrap ((j:Int)-1)=(j:Int)-1:=IntWalk.i64_in _ U0;have ai:b / q<=65536:=U0;have aw:=i64_nat ai;have L:=zH (K.o.set j ((b % q:Nat):Int));rw[qbC,rep_set] at L;have f0:=K.o.frozen j;have c0:=K.o.cell (j:=j) (by rw[qaA];simp;omega);have ah:=zH (f.o.wrote (k:=j) ae.o (Y ((b % q:Nat):Int)));(have aa:zK (Dv.digsBE q j (b / q)++(b % q :: t)=Dv.digsBE q k i):=by have h1:(Dv.digsBE q j (b / q)++[b % q])++t=Dv.digsBE q k i:=HD.o;rw[List.append_assoc] at h1;exact h1);generalize b / q=n2 at *;generalize b % q=r at *;go_wp2;go_roundw;case rel=>exact⟨j,n2,r :: t,rfl,gn,U0,so,aa.o,ah.o,L.o⟩
   case measure=>first|(simp[intOf];done)|(simp[intOf];omega)
  |zero=>have ej:((0:Nat):Int)-1=-1:=rfl;rw[ej];have P:=f.o.below;have ad:=zH (Dv.digsBE_lt (q:=q) U0 k i);have ac:=zH (Dv.digsBE_len q k i);have I:zK (t=Dv.digsBE q k i):=HD.o;have D:=zH K.o;rw[show List.replicate 0 0++t=t from rfl,I.o] at D;have C:=zH (HC.o _ go wr P D.o ad.o ac.o);have u:=zH f.o.field;have c3:wr.cell? (zA w.heap.size 3)=some (Y (cols:Int)):=f.o.cell rfl;have c4:wr.cell? (zA w.heap.size 4)=some (zL Ah k ch):=f.o.cell rfl;clear HC K D HD I P;generalize v:Dv.digsBE q k i=dg at C;have ab:=zH v;clear v;go_wp2_with (refine wpList_load_mid rfl 29 (.tmp 31) rfl w.heap.size 0 rfl (C5 p m A n c) _ u.o underlying29 rfl fieldSize ?_);refine C.o.mono ?_;rintro e w3 ⟨⟨g3,rfl,hr3,hl3,_⟩,hb3⟩;have s:=zH (f.o.below.trans (hb3.mono f.o.below.size));have ag:=zH (hr3.base (Nat.le_trans f.o.below.size hr3.lt.1));have af:=zH hl3;clear hb3 hr3 hl3 C;go_wp2;go_ret;rw[ab.o];exact⟨⟨g3,rfl,ag.o,af.o⟩,s.o⟩
end Go.Proofs.YtocbdafcolbfeaaGreat
