/- Parts of the proof. -/
import Derived.Test.YtflejelbdlelpaaGreatR18
set_option maxRecDepth 100000
set_option maxHeartbeats 8000000
namespace Go.Proofs.YtflejelbdlelpaaGreat
open Go.RowKit Pln Go.Proofs.Tryz
theorem rsame_c(zs R:LI)(A T:OA)(c V:Nat)(w:Wo)(U:zI w A zs)(S:zI w T R)(W:zs.length<=9223372036854775807):
 zC 81 #[zL A zs.length c,zL T R.length V] w (Quiet (.bool (decide (zs=R))) w):=by
 have C:=zH U;have m:=zH S;clear U S;by_cases d:zs.length=R.length
 . have r : zK (∀ k,k < zs.length -> zs.getD k 0 ≠ R.getD k 0 -> decide (zs = R) = false) := fun k u h => decide_eq_false (fun e => h (by rw [e]));have i:zK (zs.take zs.length=R.take zs.length->decide (zs=R)=true):=fun h=>decide_eq_true (by rw [List.take_length,d,List.take_length] at h;exact h);have t:zK (∀ k,k<zs.length->zs.take k=R.take k->zs.getD k 0=R.getD k 0->zs.take (k+1)=R.take (k+1)):=fun k u h he=>qcQ 0 u U0 h he;have v:((zs.length:Int) != (R.length:Int))=false:=so;have J:R.length<=zs.length:=U0;have B:zs.length<=R.length:=U0;clear d;go_enter func81,ntmps81;go_wp2;go_loopw [5] (fun v13 wr=>RelEq zs R w v13 wr) (fun v13 _=>zs.length-(intOf v13).toNat);case atStart=>exact ⟨0,0,U0,rfl,U2,rfl⟩
   case round =>
    obtain⟨k,n,u,rfl,l,rfl⟩:=hrel;have j:=zH l;clear l;by_cases f:k<zs.length
    . obtain ⟨b,o,rfl,L,M⟩ := C.o.at_ f;obtain ⟨K,Q,rfl,H,I⟩:=m.o.at_ (k:=k) U0;have D:=zH (r.o k f);have E:=zH (t.o k f j.o);generalize zs.getD k 0=z at *;generalize R.getD k 0=y at *;have N:(0:Int)<=(k:Int):=U0;have O:(k:Int)<(zs.length:Int):=U0;have P:(k:Int)<(R.length:Int):=U0;by_cases g:z=y
      . (have x : (z != y) = false:=by simp[g]);have s:=zH (E.o g);clear g;go_upto_region 6 with fail;go_quiet (fail);go_wp2;go_roundw;case rel=>exact⟨k+1,n+nq,U0,U3,s.o,rfl⟩
        case measure=>simp[intOf];omega
      . (have x:(z != y)=true:=by simp[g]);have q:=zH (D.o g);clear g;go_upto_region 6 with fail;go_quiet (fail);go_wp2;go_ret;exact⟨qaN q.o.symm,n+nq,df⟩
    . (obtain rfl:k=zs.length:=by omega);have p:=zH (i.o j.o);go_wp2;go_ret;exact⟨qaN p.o.symm,n,rfl⟩
 . (have v:((zs.length:Int) != (R.length:Int))=true:=by simp;omega);have p:zK (decide (zs=R)=false):=decide_eq_false (fun e=>d (by rw[e]));clear d;go_enter func81,ntmps81;go_wp2;go_ret;exact⟨qaN p.o.symm,0,rfl⟩
theorem rsamerows_c(zs ys:List LI)(A A':OA)(c c':Nat)(w:Wo)(hA:zR w A zs)(aa:zR w A' ys)(hl:zs.length<=9223372036854775807)(hr:∀ k,k<zs.length->(zs.getD k []).length<=9223372036854775807):
 zC 36 #[zL A zs.length c,zL A' ys.length c'] w (Quiet (.bool (decide (zs=ys))) w):=by
 have R:=zH hA;have D:=zH aa;have S:=zH hr;clear hA aa hr;by_cases l:zs.length=ys.length
 . have J : zK (∀ k,k < zs.length -> zs.getD k [] ≠ ys.getD k [] -> decide (zs = ys) = false) := fun k N h => decide_eq_false (fun e => h (by rw [e]));have u:zK (zs.take zs.length=ys.take zs.length->decide (zs=ys)=true):=fun h=>decide_eq_true (by rw [List.take_length,l,List.take_length] at h;exact h);have M:zK (∀ k,k<zs.length->zs.take k=ys.take k->zs.getD k []=ys.getD k []->zs.take (k+1)=ys.take (k+1)):=fun k N h he=>qcQ [] N U0 h he;have O:((zs.length:Int) != (ys.length:Int))=false:=so;have V:ys.length<=zs.length:=U0;have Q:zs.length<=ys.length:=U0;clear l;go_enter func36,ntmps36;go_wp2;go_loopw [5] (fun v17 wr=>RelEq zs ys w v17 wr) (fun v17 _=>zs.length-(intOf v17).toNat);case atStart=>exact ⟨0,0,U0,rfl,U2,rfl⟩
   case round =>
    obtain⟨k,n,N,rfl,z,rfl⟩:=hrel;have v:=zH z;clear z;by_cases m:k<zs.length
    . obtain ⟨b,o,B,C,rfl,hb,hc,P⟩ := R.o.at_ m;obtain ⟨b',o',d,g,rfl,T,U,y⟩:=D.o.at_ (i:=k) U0;have H:=zH (J.o k m);have K:=zH (M.o k m v.o)
      have f:zK (∀n,zC 81 #[zL B (zs.getD k []).length C,zL d (ys.getD k []).length g] (w.drewN n) (Quiet (.bool (decide (zs.getD k []=ys.getD k []))) (w.drewN n))):=fun n=>
       rsame_c (zs.getD k []) (ys.getD k []) B d C g (w.drewN n) (P.keep (qaB zV n)) (y.keep (qaB zV n)) (S.o k m)
      clear P y;have k0:(0:Int)<=(k:Int):=U0;have k1:(k:Int)<(zs.length:Int):=U0;have k2:(k:Int)<(ys.length:Int):=U0;by_cases t:zs.getD k []=ys.getD k []
      . have L := zH (K.o t);(have x:=zH<|decide_eq_true t);clear t H K;(have p:zK (∀ W,SDrew w W->zC 81 #[zL B (zs.getD k []).length C,zL d (ys.getD k []).length g] W fun e w'=>e=.returned (.bool true)/\SDrew w w'):=fun W ⟨r,hW⟩=>by subst hW;refine (f.o r).mono ?_;rintro e w' ⟨he,s,rfl⟩;exact ⟨by rw [he,x.o],r+s,U9⟩);clear f x;generalize (zs.getD k []).length=X at *;generalize (ys.getD k []).length=Z at *;go_upto_region 6 with fail;refine qaD (SDrew w) U1 U1 ⟨n+1,by rw [<- World.drewN_drewN];rfl⟩ ?_
        repeat (first
         | (apply qaJ rfl
            . intro W j
              obtain⟨r,rfl⟩:=j
              go_simp
              rfl
            go_simp)
         | (apply qaO rfl
            . intro W j
              go_simp
              exact⟨rfl,rfl⟩
            . intro W j
              exact p.o W j
            go_simp))
        refine qaE ?_;intro w2 q;obtain⟨s,rfl⟩:=q;go_wp2;go_roundw;case rel=>exact⟨k+1,s,U0,U3,L.o,rfl⟩
        case measure=>simp[intOf];omega
      . have I := zH (H.o t);(have x:=zH<|decide_eq_false t);clear t H K;(have p:zK (∀ W,SDrew w W->zC 81 #[zL B (zs.getD k []).length C,zL d (ys.getD k []).length g] W fun e w'=>e=.returned (.bool false)/\SDrew w w'):=fun W ⟨r,hW⟩=>by subst hW;refine (f.o r).mono ?_;rintro e w' ⟨he,s,rfl⟩;exact ⟨by rw [he,x.o],r+s,U9⟩);clear f x;generalize (zs.getD k []).length=X at *;generalize (ys.getD k []).length=Z at *;go_upto_region 6 with fail;refine qaD (SDrew w) U1 U1 ⟨n+1,by rw [<- World.drewN_drewN];rfl⟩ ?_
        repeat (first
         | (apply qaJ rfl
            . intro W j
              obtain⟨r,rfl⟩:=j
              go_simp
              rfl
            go_simp)
         | (apply qaO rfl
            . intro W j
              go_simp
              exact⟨rfl,rfl⟩
            . intro W j
              exact p.o W j
            go_simp))
        refine qaE ?_;intro w2 q;obtain⟨s,rfl⟩:=q;go_wp2;go_ret;exact⟨qaN I.o.symm,s,rfl⟩
    . (obtain rfl:k=zs.length:=by omega);have E:=zH (u.o v.o);go_wp2;go_ret;exact⟨qaN E.o.symm,n,rfl⟩
 . (have O:((zs.length:Int) != (ys.length:Int))=true:=by simp;omega);have E:zK (decide (zs=ys)=false):=decide_eq_false (fun e=>l (by rw[e]));clear l;go_enter func36,ntmps36;go_wp2;go_ret;exact⟨qaN E.o.symm,0,rfl⟩
theorem elGo_nil(O:Ops):∀ c,elGo O [] c=⟨[],[]⟩
 |0=>rfl
 |c + 1=>by
   unfold elGo
   rw[elGo_nil O c]
   rfl
theorem reliminate_nil(p m:Int)(A:OA)(n f:Nat)(g:OA)(c2:Nat)(cols:Int)(h:1<=cols)(w:Wo):zC 37 #[C4 p m A n f,zL g 0 c2,Y cols] w fun e w'=>e=.returned (.tuple #[zL none 0 0,zL none 0 0])/\zB w w':=by
 have c:=zH (qbK w p m A n f);go_enter func37,ntmps37;go_upto_region 1 with fail;generalize w.alloc (C2 p m A n f)=d at *;have b:=zH (rcopy_nil g c2 d);go_wp2_with (go_at_call 82;go_fit b.o;rintro e w' ⟨rfl,rfl⟩);go_loop [9,10,11] (fun v9 v10 v11=>v11=Y 0/\v10=Y 0/\v9=zL none 0 0) (fun _ _ _=>0);case atStart=>exact⟨rfl,rfl,rfl⟩
 case round=>obtain⟨rfl,rfl,rfl⟩:=hrel;go_wp2;go_ret2;exact⟨rfl,c.o.bl⟩
theorem rcanon_c(p m:Nat)(md:LN)(A:OA)(n K:Nat)(rows:LL)(M:OA)(c2 cols:Nat)(w:Wo)(Q:RFld p m md A n w.heap.size w)(S:∃ l,FT p m md l)(L:Grid (p ^ m) rows.length cols rows)(P:zR w M (nzs rows))(N:1<=cols)(U:cols<=256)(T:rows.length<=256):
 zC 23 #[C4 p m A n K,zL M rows.length c2,Y cols] w fun e w'=>(∃(A':OA)(ck:Nat)(VA:OA)(c3:Nat),e=.returned (.tuple #[zL A' (canonM (refOps p m md) rows cols).length ck,zL VA (elGo (refOps p m md) rows cols).piv.length c3])/\RowsUp w' w.heap.size A' (nzs (canonM (refOps p m md) rows cols))/\zI w' VA (nz (elGo (refOps p m md) rows cols).piv))/\zB w w':=by
 have q:=zH (qbK w p m A n K);by_cases b:rows.length=0
 . (have t:canonM (refOps p m md) rows cols=[]:=by have:rows=[]:=List.length_eq_zero_iff.1 b;subst this;unfold canonM;rw[elGo_nil];rfl);(have v:(elGo (refOps p m md) rows cols).piv=[]:=by have:rows=[]:=List.length_eq_zero_iff.1 b;subst this;rw[elGo_nil]);rw[t,v,b];clear Q S L P t v T b;go_enter func23,ntmps23;go_upto_region 1 with fail;generalize w.alloc (C2 p m A n K)=B at *;have f:=zH q.o.range;have x:=zH (reliminate_nil p m A n K M c2 cols U0 B);go_wp2_with (refine wpList_load_mid rfl 24 (.tmp 3) rfl w.heap.size 0 rfl (C5 p m A n K) _ f.o underlying24 rfl fieldSize ?_);go_fit x.o;rintro e H ⟨rfl,hb1⟩;have k:=zH (q.o.grow hb1);clear hb1;go_wp2;go_ret2;exact⟨⟨none,0,none,0,rfl,(fun h=>by simp[nzs] at h),fun h=>by simp[nz] at h⟩,k.o.bl⟩
 . have x : zK (∀ W,zB w W -> zC 37 #[C4 p m A n K,zL M rows.length c2,Y cols] W (RElPost W (refOps p m md) rows cols)) := fun W hW =>
    reliminate_c p m md A n K rows M c2 cols W ((Q.keep hW).more hW.size) S L ((P.keep hW).more hW.size) N U U0 T
   have s:=zH (canonM_len (refOps p m md) rows cols);have c:=zH (qeN (O:=refOps p m md) rows cols);have j:=zH (qfD (O:=refOps p m md) rows cols);have r:=zH (qfB (refOps p m md) rows cols);clear Q S L P b;generalize refOps p m md=O at *;go_enter func23,ntmps23;go_upto_region 1 with fail;generalize w.alloc (C2 p m A n K)=B at *;have f:=zH q.o.range;go_wp2_with (refine wpList_load_mid rfl 24 (.tmp 3) rfl w.heap.size 0 rfl (C5 p m A n K) _ f.o underlying24 rfl fieldSize ?_);(with_reducible refine(x.o B q.o.bl).mono ?_);rintro e H ⟨⟨R,cR,VA,ck,bs,rfl,hgd,hpv⟩,hb1⟩;have y:=zH hpv;have k:=zH (q.o.grow hb1);have z:zK (RowsUp H w.heap.size (zO R) (nzs (canonM O rows cols))):=(hgd.rowsAt (canonM O rows cols) (by rw[s.o,j.o];exact c.o.2) (fun i hi=>r.o i (by rw[<- s.o];exact hi))).lower (by have:=q.o.bl.size;omega);have C:=c.o.2;obtain⟨cur,u⟩:=qdE hgd.out;have E:rows.length<=cR:=by
    have h:=hgd.out.2;rcases h with⟨N,_⟩|⟨g,cap,D,I,_,_,J,_⟩
    . cases N
    . simp only[Value.slice.injEq] at I;have:=j.o;omega
   rw[<- s.o] at C;have d:=zH s.o.symm;clear hb1 hgd hpv s c j r u;rw[d.o];go_wp2;go_ret2;refine⟨⟨some (zA R 0),cR,VA,ck,?_,z.o,y.o⟩,k.o.bl⟩
   first
    |rfl
    |(rw[d.o];done)
    |(rw[d.o];rfl)
theorem rspcheck_c(p m:Int)(mod:LI)(Z:OA)(cm:Nat)(cols:Int)(zs:List LI)(A:OA)(c:Nat)(w:Wo)(hM:zI w Z mod)(hl:mod.length<=9223372036854775807)(hA:zR w A zs)(aa:zs.length<=9223372036854775807)(h1:1<=cols):
 zC 22 #[C4 p m Z mod.length cm,Cp cols A zs.length c] w fun e w'=>e=.returned (Y (spZ p m mod cols zs))/\zB w w':=by
 have r:=zH (box2_new w p m Z mod.length cm cols A zs.length c);have L:=zH hM;have J:=zH hA;clear hM hA;go_enter func22,ntmps22;go_upto_region 1 with fail;generalize (w.alloc (C2 p m Z mod.length cm)).alloc (C9 cols A zs.length c)=P at *;have h:=zH r.o.range;have n:=zH r.o.range1;have O:=zH (rcheck_c p m mod Z cm cols zs A c P ((L.o.keep r.o.below).more r.o.below.size) hl ((J.o.keep r.o.below).more r.o.below.size) aa);go_wp2_with (first|(refine wpList_load_mid rfl 24 (.tmp 2) rfl w.heap.size 0 rfl (C5 p m Z mod.length cm) _ h.o underlying24 rfl fieldSize ?_)|(refine wpList_load_mid rfl 60 (.tmp 3) rfl (w.heap.size+1) 0 rfl [Y cols,zL A zs.length c] _ n.o underlying60 rfl matSize ?_));go_fit O.o;rintro e N ⟨rfl,hb1⟩;have b:=zH (r.o.grow hb1);clear hb1 r O h n;clear P;by_cases d:errC p m mod cols zs=0
 . rw [d];have g:fieldOK p m mod=true:=by
    unfold errC at d;split at d
    . assumption
    . cases d
   (have E:checkZ (p.toNat^m.toNat) cols zs=0:=by unfold errC at d;rw[if_pos g] at d;exact d);obtain⟨H,x,T,U,M⟩:=qfY E;(have I:shapeM p m mod=true:=by unfold fieldOK at g;rw[Bool.and_eq_true] at g;exact g.1);have t:=qeQ I;have v:=field_ft g;have k:(mdOf m mod).length=m.toNat:=by
    by_cases y:m=1
    . rw[y];simp[mdOf]
    . unfold mdOf;rw[if_neg y,List.length_map];exact t.len y
   have s:canonM (refOps p.toNat m.toNat (mdOf m mod)) (natR zs) cols.toNat=canZ p m mod cols zs:=(canon_eq (ops_eq v k) x).symm
   have C:zK (RFld p.toNat m.toNat (mdOf m mod) Z mod.length N.heap.size N):=⟨t.small,k,t.lt,fun h2=>by
    have y:m≠1:=by intro e;rw[e] at h2;exact absurd h2 dc
    exact⟨t.len y,by rw[t.nat y];exact(L.o.keep b.o.below).more b.o.below.size⟩⟩
   have u:=zH (rcanon_c p.toNat m.toNat (mdOf m mod) Z mod.length cm (natR zs) A c cols.toNat N C.o ⟨_,v⟩ x (by rw[H];exact(J.o.keep b.o.below).more b.o.below.size) U0 U0 (by rw[natR_len];exact M));rw[natR_len,s,t.p0,t.m0,show((cols.toNat:Nat):Int)=cols by omega] at u;(have l:zK (spZ p m mod cols zs=if nzs (canZ p m mod cols zs)=zs then 0 else 5):=by show _=_;unfold spZ;rw[if_neg (by simp[d])]);have q:=zH (canZ_rows d);have z:=zH (canZ_len d);clear d g E H x I t v k s C L;generalize canZ p m mod cols zs=Q at *;have h:=zH b.o.range;have R:=b.o.c0;have S:=b.o.c1;go_wp2_with (refine wpList_load_mid rfl 24 (.tmp 2) rfl w.heap.size 0 rfl (C5 p m Z mod.length cm) _ h.o underlying24 rfl fieldSize ?_);go_fit u.o;rintro e W ⟨⟨A',ck,VA,c3,rfl,hra,_⟩,hb2⟩;have j:=zH (b.o.grow hb2);have i:=zH (rsamerows_c (nzs Q) zs A' A ck c W hra.rowsAt ((J.o.keep j.o.below).more j.o.below.size) (by have:=z.o;omega) q.o);rw[nzs_len] at i;have D:=j.o.c1;clear hra hb2 R S u q z b h J;by_cases f:nzs Q=zs
   . rw[decide_eq_true f] at i;(have B:zK (spZ p m mod cols zs=0):=by show _=_;rw[l.o,if_pos f]);clear f l;go_wp2_with fail;go_fit i.o;rintro e X ⟨rfl,n4,rfl⟩;have K:=zH (qaB j.o.below n4);clear D;go_wp2;go_ret;exact⟨qaG B.o.symm,K.o⟩
   . rw[decide_eq_false f] at i;(have B:zK (spZ p m mod cols zs=5):=by show _=_;rw[l.o,if_neg f]);clear f l;go_wp2_with fail;go_fit i.o;rintro e X ⟨rfl,n4,rfl⟩;have K:=zH (qaB j.o.below n4);clear D;go_wp2;go_ret;exact⟨qaG B.o.symm,K.o⟩
 . (have B:zK (spZ p m mod cols zs=errC p m mod cols zs):=by show _=_;unfold spZ;rw[if_pos d]);(have V:(errC p m mod cols zs != 0)=true:=by rw[bne_iff_ne];exact d);clear d;go_wp2;go_ret;exact⟨qaG B.o.symm,b.o.below⟩
theorem rcodecheck_c(p m:Int)(mod:LI)(B:OA)(C:Nat)(N:Int)(zs:List LI)(A:OA)(c:Nat)(w:Wo)(H:zI w B mod)(I:mod.length<=9223372036854775807)(E:zR w A zs)(D:zs.length<=9223372036854775807):
 zC 11 #[C7 p m B mod.length C N A zs.length c] w fun e w'=>e=.returned (Y (codeZ p m mod N zs))/\zB w w':=by
 have h:zK (SBoxC w (C3 p m B mod.length C N A zs.length c) (w.alloc (C8 p m B mod.length C N A zs.length c))):=
  ⟨heap_alloc_new _ _,zV.alloc zn _,U2⟩
 have j:=zH H;have r:=zH E;clear H E;go_enter func11,ntmps11;go_upto_region 1 with fail;generalize w.alloc (C8 p m B mod.length C N A zs.length c)=t at *;have d:=zH h.o.range3;have s:=zH (rfcheck_c p m mod B C t ((j.o.keep h.o.2.1).more h.o.2.1.size) I);go_wp2_with (refine wpList_load_mid rfl 24 (.tmp 4) rfl w.heap.size 0 rfl (C5 p m B mod.length C) _ d.o underlying24 rfl fieldSize ?_);go_fit s.o;rintro e q ⟨rfl,hb1⟩;have b:=zH (h.o.grow hb1);clear hb1 h s d;clear t;cases hok:fieldOK p m mod
 . (have f:zK (codeZ p m mod N zs=1):=by show _=_;unfold codeZ;rw[if_pos hok]);have i:errF false=1:=rfl;rw[i];clear hok i;go_wp2;go_ret;exact⟨qaG f.o.symm,b.o.2.1⟩
 . have i : errF true = 0 := rfl;rw [i];have x:q.cell? (zA w.heap.size 3)=some (Y N):=cell_of_row _ _ 3 _ _ _ b.o.1;have y:q.cell? (zA w.heap.size 4)=some (zL A zs.length c):=cell_of_row _ _ 4 _ _ _ b.o.1;clear i;by_cases u:N<1
   . (have f:zK (codeZ p m mod N zs=4):=by(have g:lengthZ N=4:=by unfold lengthZ;rw[if_pos U0]);show _=_;unfold codeZ;rw[if_neg (by simp[hok]),if_pos (by rw[g];decide)]);clear hok;go_wp2;go_ret;exact⟨qaG f.o.symm,b.o.2.1⟩
   . by_cases v : 64 < N
     . (have f:zK (codeZ p m mod N zs=4):=by(have g:lengthZ N=4:=by unfold lengthZ;rw[if_pos U0]);show _=_;unfold codeZ;rw[if_neg (by simp[hok]),if_pos (by rw[g];decide)]);clear hok;go_wp2;go_ret;exact⟨qaG f.o.symm,b.o.2.1⟩
     . (have f:zK (codeZ p m mod N zs=spZ p m mod N zs):=by(have n:lengthZ N=0:=by unfold lengthZ;rw[if_neg U0]);show _=_;unfold codeZ;rw[if_neg (by simp[hok]),if_neg (by rw[n];decide)]);have k:=zH (rspcheck_c p m mod B C N zs A c q ((j.o.keep b.o.2.1).more b.o.2.1.size) I ((r.o.keep b.o.2.1).more b.o.2.1.size) D U0);have d:=zH b.o.range3;clear hok j r;go_wp2_with (refine wpList_load_mid rfl 24 (.tmp 18) rfl w.heap.size 0 rfl (C5 p m B mod.length C) _ d.o underlying24 rfl fieldSize ?_);go_fit k.o;rintro e z ⟨rfl,hb2⟩;have l:=zH (b.o.grow hb2);clear hb2;go_wp2;go_ret;exact⟨qaG f.o.symm,l.o.2.1⟩
end Go.Proofs.YtflejelbdlelpaaGreat
namespace Go.Proofs.YtflejelbdlelpaaGreat
open Go.RowKit Pln
def BX(w:Wo)(cs:List Value)(t:TypeId)(W:Wo):Prop:=W.heap[w.heap.size]?=some (.cells cs.toArray t (0,0))/\zB w W/\w.heap.size<W.heap.size
section
variable {w:Wo} {cs:List Value} {t:TypeId} {W W':Wo}
theorem BX.grow(h:BX w cs t W)(f:zB W W'):BX w cs t W':=by obtain⟨b,c,d⟩:=h;exact⟨(f.block _ U0).trans b,c.trans (f.mono U0),Nat.lt_of_lt_of_le d f.size⟩
theorem BX.below(h:BX w cs t W):zB w W:=h.2.1
theorem BX.cell(h:BX w cs t W){k:Nat}{v:Value}(b:cs[k]?=some v):W.cell? (zA w.heap.size k)=some v:=by rw[cell_of_row W w.heap.size k _ _ _ h.1];simpa using b
theorem BX.range(h:BX w cs t W):W.rangeAt w.heap.size 0 cs:=qeL h.1
end
theorem bx_new(w:Wo)(cs:List Value)(t:TypeId):BX w cs t (w.alloc (.cells cs.toArray t)):=⟨heap_alloc_new _ _,zV.alloc zn _,U2⟩
end Go.Proofs.YtflejelbdlelpaaGreat
namespace Go.Proofs.YtflejelbdlelpaaGreat
open Go.RowKit Pln Go.Proofs.Tryz
theorem rwt_append:∀ u v:LN,Dv.wt (u++v)=Dv.wt u+Dv.wt v
 |[],v=>by simp[Dv.wt]
 |x :: r,v=>by
   show(if x=0 then 0 else 1)+Dv.wt (r++v)=(if x=0 then 0 else 1)+Dv.wt r+Dv.wt v
   rw[rwt_append r v,Nat.add_assoc]
theorem rwt_take{v:LN}{j:Nat}(b:j<v.length):Dv.wt (v.take (j+1))=Dv.wt (v.take j)+if v.getD j 0=0 then 0 else 1:=by
 rw[List.take_add_one,List.getElem?_eq_getElem b,rwt_append];have e:v.getD j 0=v[j]:=by simp[List.getD,b]
 rw[e];simp[Dv.wt]
theorem rwt_le:∀ v:LN,Dv.wt v<=v.length
 |[]=>by simp[Dv.wt]
 |x :: r=>by
   have:=rwt_le r
   unfold Dv.wt
   rw[List.length_cons]
   split<;>omega
def RelWg(v:LN)(w:Wo)(v3 v4:Value)(wr:Wo):Prop:=∃k:Nat,k<=v.length/\v4=Y k/\v3=Y ((Dv.wt (v.take k):Nat):Int)/\wr=w
def RelEx(q k:Nat)(w:Wo)(v8 v9:Value)(wr:Wo):Prop:=∃i:Nat,i<=k/\v9=Y i/\v8=Y ((q^i:Nat):Int)/\q^i<=65536/\wr=w
theorem weight_c(v:LN)(A:OA)(c:Nat)(w:Wo)(t:zI w A (nz v))(u:v.length<=1000):
 zC 16 #[zL A v.length c] w fun e w'=>e=.returned (Y ((Dv.wt v:Nat):Int))/\w=w':=by
 have i:=zH t;clear t;go_enter func16,ntmps16;go_wp2;go_loopw [3,4] (fun v3 v4 wr=>RelWg v w v3 v4 wr) (fun _ v4 _=>v.length-(intOf v4).toNat);case atStart=>exact⟨0,U0,rfl,rfl,rfl⟩
 case round =>
  obtain⟨k,q,rfl,rfl,rfl⟩:=hrel;have m:Dv.wt (v.take k)<=1000:=Nat.le_trans (rwt_le _) (by rw[List.length_take];omega);by_cases f:k<v.length
  . obtain ⟨b,o,rfl,p,h⟩ := i.o.at_ (k := k) (by rw [qaA];exact f);rw [qaC] at h;have d:=zH (rwt_take f);have r:(0:Int)<=(k:Int):=U0;have s:(k:Int)<(v.length:Int):=U0;have j:IntKind.i64.wrap ((k:Int)+1)=(k:Int)+1:=IntWalk.i64_in _ U0;have l:IntKind.i64.wrap (((Dv.wt (v.take k):Nat):Int)+1)=((Dv.wt (v.take k):Nat):Int)+1:=IntWalk.i64_in _ U0;by_cases g:v.getD k 0=0
    . rw[if_pos g] at d;rw[g] at h;clear g;go_wp2;go_roundw;case rel=>exact⟨k+1,U0,U3,by rw[d.o];rfl,rfl⟩
      case measure=>simp[intOf];omega
    . rw[if_neg g] at d;(have n:(((v.getD k 0:Nat):Int) != 0)=true:=by simpa using g);generalize v.getD k 0=x at *;go_wp2;go_roundw;case rel=>exact⟨k+1,U0,U3,by rw[d.o];go_num,rfl⟩
      case measure=>simp[intOf];omega
  . (obtain rfl:k=v.length:=by omega);rw[List.take_length];go_wp2;go_ret;exact⟨rfl,rfl⟩
def expV(q k:Nat):Int:=if q^k<=65536 then((q^k:Nat):Int) else 0
def expE(q k:Nat):Int:=if q^k<=65536 then 0 else 8
theorem tdiv_natE(a b:Nat):Int.tdiv (a:Int) (b:Int)=((a / b:Nat):Int):=rfl
theorem exp_c(q k:Nat)(O:2<=q)(M:q<=256)(N:k<=1000)(w:Wo):
 zC 14 #[Y q,Y k,Y 65536] w fun e w'=>e=.returned (.tuple #[Y (expV q k),Y (expE q k)])/\w=w':=by
 have E:¬(q:Int)<0:=U0;have H:¬(k:Int)<0:=U0;have I:((q:Int)==0)=false:=beq_false_of_ne U0;have J:(1:Int)<(q:Int):=U0;have y:¬(q:Int)=0:=U0;have A:¬q=0:=U0;have x:Int.tdiv 65536 (q:Int)=((65536 / q:Nat):Int):=tdiv_natE 65536 q;have v:65536 / q<=65536:=Nat.div_le_self _ _;have g:∀a:Nat,a<=65536 / q ↔ a*q<=65536:=fun a=>Nat.le_div_iff_mul_le U0;generalize 65536 / q=c at *;have D:IntKind.i64.wrap (c:Int)=(c:Int):=IntWalk.i64_in _ U0;have b:=zH g;clear g;go_enter func14,ntmps14;go_wp2;go_loopw [8,9] (fun v8 v9 wr=>RelEx q k w v8 v9 wr) (fun _ v9 _=>k-(intOf v9).toNat);case atStart=>exact⟨0,U0,rfl,U2,U2,rfl⟩
 case round =>
  obtain⟨i,K,rfl,rfl,j,rfl⟩:=hrel;by_cases p:i<k
  . (have L : (i : Int) < (k : Int) := by omega);have B:IntKind.i64.wrap ((i:Int)+1)=(i:Int)+1:=IntWalk.i64_in _ U0;have l:=b.o (q ^ i);rw [<- Nat.pow_succ] at l;by_cases r:q ^ i<=c
    . (have d : ¬(c : Int)< ((q^i : Nat): Int):=by omega);have s:=l.1 r;(have C:IntKind.i64.wrap (((q^i:Nat):Int)*(q:Int))=((q^(i+1):Nat):Int):=by rw[<- Int.natCast_mul,<- Nat.pow_succ];exact IntWalk.i64_in _ U0);have t:=zH s;clear l s;generalize q^i=z at *;go_wp2;go_roundw;case rel=>exact⟨i+1,U0,U3,U2,t.o,rfl⟩
      case measure=>simp[intOf];omega
    . (have d : (c : Int) < ((q ^ i : Nat) : Int) := by omega);have f:65536<q ^ k:=by
       have u:65536<q^(i+1):=by
        rcases Nat.lt_or_ge 65536 (q^(i+1)) with h|h
        . exact h
        . exact absurd (l.2 h) r
       exact Nat.lt_of_lt_of_le u (Nat.pow_le_pow_right U0 p)
      have n:zK (expV q k=0):=if_neg U0;have m:zK (expE q k=8):=if_neg U0;clear l f;generalize q^i=z at *;go_wp2;go_ret2;rw[n.o,m.o];exact⟨rfl,rfl⟩
  . (obtain rfl:i=k:=by omega);have n:zK (expV q i=((q^i:Nat):Int)):=if_pos j;have m:zK (expE q i=0):=if_pos j;have d:¬(65536:Int)<((q^i:Nat):Int):=U0;clear b;generalize q^i=z at *;go_wp2;go_ret2;rw[n.o,m.o];exact⟨rfl,rfl⟩
end Go.Proofs.YtflejelbdlelpaaGreat
