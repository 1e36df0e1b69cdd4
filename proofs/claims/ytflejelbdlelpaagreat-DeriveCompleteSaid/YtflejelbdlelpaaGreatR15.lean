/- Parts of the proof. -/
import Derived.Test.YtflejelbdlelpaaGreatR13
set_option maxRecDepth 100000
set_option maxHeartbeats 8000000
namespace Go.Proofs.YtflejelbdlelpaaGreat
open Go.RowKit Pln Go.Proofs.Tryz
theorem qeF(f:Nat->Bool)(k:Nat):(List.range (k+1)).all f=((List.range k).all f && f k):=by rw[List.range_succ,List.all_append];simp
theorem qdS(f:Nat->Bool){n k:Nat}(b:k<n)(h:f k=false):(List.range n).all f=false:=by rw[List.all_eq_false];exact⟨k,List.mem_range.2 b,by rw[h];simp⟩
def noDiv(p:Nat)(md:LN)(d:Nat):Bool:=(List.range (p^(d+1))).all fun v=>!dividesM p (digs p (d+1) v) md
theorem irrM_eq(p:Nat)(md:LN):irrM p md=(List.range (md.length / 2)).all (noDiv p md):=rfl
def RelIr(w:Wo)(p:Nat)(md:LN)(v5 v6:Value)(wr:Wo):Prop:=
 ∃d:Nat,d<=md.length / 2/\v6=Y ((d+1:Nat):Int)/\v5=Y ((p^d:Nat):Int)/\(List.range d).all (noDiv p md)=true/\zB w wr
def RelIv(w:Wo)(p:Nat)(md:LN)(d:Nat)(v7:Value)(wr:Wo):Prop:=
 ∃v:Nat,v<=p^(d+1)/\v7=Y (v:Int)/\(List.range v).all (fun v=>!dividesM p (digs p (d+1) v) md)=true/\zB w wr
theorem rirr_c(p:Nat)(md:LN)(Am:OA)(cm:Nat)(w:Wo)(hp:2<=p)(af:p<=256)(hM:zI w Am (nz md))(hm:Dig p md.length md)(ae:md.length<=8)(hq:p ^ md.length<=256):
 zC 34 #[zL Am md.length cm,Y p] w fun e w'=>e=.returned (.bool (irrM p md))/\zB w w':=by
 have HM:=zH hM;have O:=zH hm;have z:=zH (irrM_eq p md);have Q:zK (∀d,d<md.length / 2->p^(d+1)<=256):=fun d hd=>Nat.le_trans (qbZ hp U0) hq;clear hM hm;go_enter func34,ntmps34;go_wp2;go_loopw [5,6] (fun v5 v6 wr=>RelIr w p md v5 v6 wr) (fun _ v6 _=>md.length+1-(intOf v6).toNat);case atStart=>exact⟨0,Nat.zero_le _,rfl,by rw[Nat.pow_zero];rfl,rfl,Below.refl _ _⟩
 case round =>
  obtain⟨d,hd,rfl,rfl,m,I⟩:=hrel;have j:=zH m;have Z:=zH I;clear m I;by_cases J:d<md.length / 2
  . have R : zK (p ^ (d + 1) = p ^ d * p) := Nat.pow_succ _ _;have V:=Q.o d J;rw [R.o] at V;have K:((p ^ d:Nat):Int)*(p:Int)=((p ^ d*p:Nat):Int):=(Int.natCast_mul _ _).symm;have y:zK (RelIv w p md d (zN 0) wr):=⟨0,Nat.zero_le _,rfl,rfl,Z.o⟩
    have L:zK (∀(v:Nat)(wr:Wo),v<=256->zC 79 #[Y (v:Int),Y (p:Int),Y ((d+1:Nat):Int)] wr fun e w'=>e=.returned (zS wr.heap.size (d+1) (d+1))/\Row w' wr.heap.size wr.heap.size (d+1) (nz (digs p (d+1) v))/\zB wr w'):=
     fun v wr hv=>rdigits_c v p (d+1) wr U0 U0 U0 U0
    (have N:=zH<|fun v=>qaK p (d+1) v);(have C:zK ((List.range (p^(d+1))).all (fun v=>!dividesM p (digs p (d+1) v) md)=true->(List.range (d+1)).all (noDiv p md)=true):=fun h=>by rw[qeF,j.o];unfold noDiv;rw[h];rfl);(have P:zK ((List.range (p^(d+1))).all (fun v=>!dividesM p (digs p (d+1) v) md)=false->irrM p md=false):=fun h=>by rw[z.o];exact qdS _ J (k:=d) h);have E:2*(d+1)<=md.length:=U0;have H:2*((d+1:Nat):Int)<=(md.length:Int):=U0;have ac:1<=d+1:=U0;have M:zK (RelIr w p md (Y ((p^(d+1):Nat):Int)) (Y ((d+1+1:Nat):Int))=RelIr w p md (Y ((p^(d+1):Nat):Int)) (Y (((d+1)+1:Nat):Int))):=rfl;have A:zK (∀v wr,RelIv w p md d v wr=∃x:Nat,x<=p^(d+1)/\v=Y (x:Int)/\(List.range x).all (fun v=>!dividesM p (digs p (d+1) v) md)=true/\zB w wr):=fun _ _=>rfl;have D:zK (∀wr,(List.range (d+1)).all (noDiv p md)=true->zB w wr->RelIr w p md (Y ((p^(d+1):Nat):Int)) (Y (((d+1:Nat):Int)+1)) wr):=fun wr h1 h2=>⟨d+1,U0,by rw[Int.natCast_add (d+1) 1];rfl,rfl,h1,h2⟩;clear M;generalize W:p^d=q at *;generalize X:q*p=q2 at *;(have f:=zH<|R.o);clear W X R;generalize d+1=e at *;go_wp2_with fail;clear K;go_loopw [7] (fun v7 wr=>RelIv w p md d v7 wr) (fun v7 _=>q2-(intOf v7).toNat);case atStart=>exact y.o
    case round =>
     rw[A.o] at hrel;obtain⟨v,hv,rfl,g,I⟩:=hrel;have b:=zH g;have c:=zH I;rw[f.o] at hv;clear g I y;by_cases U:v<q2
     . (have t : zK (∀ i,zB wr i -> Row i wr.heap.size wr.heap.size e (nz (digs p e v)) -> zC 78 #[zS wr.heap.size e e,zL Am md.length cm,Y p] i fun e' w' => e' = .returned (.bool (dividesM p (digs p e v) md)) /\ zB i w') := fun i hb1 hr1 => by have n:=N.o v;have:=rdivides_c p (digs p e v) md (zO wr.heap.size) Am e cm i hp af (hr1.ints hr1.lt.2) (((HM.o.keep c.o).more c.o.size).grow zn hb1 |>.more hb1.size) ⟨rfl,qdU U0 _ _⟩ O.o (by rw [n];omega) (by rw [n];omega) ae;rw [n] at this;exact this);have T:=zH (qeF (fun v=>!dividesM p (digs p e v) md) v);(have S:zK (dividesM p (digs p e v) md=true->irrM p md=false):=fun h=>by refine P.o ?_;exact qdS _ (by rw [f.o];exact U) (by rw [h];rfl));have l:=zH (L.o v wr U0);go_wp2_with fail;go_fit l.o;rintro e1 i ⟨rfl,hr1,hb1⟩;have u:=zH (t.o i hb1 hr1);have r:=zH (c.o.trans (hb1.mono c.o.size));clear hr1 hb1 l t;generalize dividesM p (digs p e v) md=bb at *;go_wp2_with fail;go_fit u.o;rintro e2 w2 ⟨rfl,hb2⟩;have s:=zH (r.o.trans (hb2.mono r.o.size));clear hb2 u;cases bb
       . go_wp2;go_roundw;case rel=>rw[A.o];exact⟨v+1,by rw[f.o];omega,U3,by rw[T.o,b.o];rfl,s.o⟩
         case measure=>simp[intOf];omega
       . have HN:=zH (S.o rfl);go_wp2;go_ret;exact⟨qaN HN.o.symm,s.o⟩
     . (obtain rfl : v = q2:=by omega);have B:=zH (D.o wr (C.o (by rw[f.o];exact b.o)) c.o);rw[f.o] at B;go_wp2;go_roundw;case rel=>exact B.o
       case measure=>simp[intOf];omega
  . (obtain rfl:d=md.length / 2:=by omega);(have HT:zK (irrM p md=true):=by show _=_;rw[z.o];exact j.o);have E:md.length<2*(md.length / 2+1):=U0;have ab:md.length / 2<=4:=U0;generalize md.length / 2=d at *;have H:¬2*((d+1:Nat):Int)<=(md.length:Int):=U0;have aa:=decide_eq_false H;have ad:d+1<=9:=U0;clear E;generalize p^d=q at *;generalize d+1=e at *;go_wp2;go_ret;exact⟨qaN HT.o.symm,Z.o⟩
theorem fieldOK_order{p m:Int}{mod:LI}(h:orderM p m=0):fieldOK p m mod=false:=by rw[qdY];unfold shapeM;rw[h];rfl
theorem fieldOK_prime{p m:Int}{mod:LI}(h:primeB p.toNat=false):fieldOK p m mod=false:=by rw[qdY];unfold shapeM primeP;rw[h];simp
theorem shape_of{p m:Int}{mod:LI}(c:orderM p m≠0)(d:primeB p.toNat=true):shapeM p m mod=(if m=1 then mod.length==0 else((mod.length:Int)==m) && mod.all (inB p)):=by have b:=(orderM_ne c).2.2.1.p1;unfold shapeM primeP;rw[d,show(orderM p m==0)=false by rw[beq_eq_false_iff_ne];exact c,show Nat.ble 2 p.toNat=true by rw[Nat.ble_eq];exact b];simp
theorem fieldOK_one{p m:Int}{mod:LI}(c:orderM p m≠0)(d:primeB p.toNat=true)(b:m=1):fieldOK p m mod=(mod.length==0):=by rw[qdY,shape_of c d,if_pos b];simp[b]
theorem fieldOK_more{p m:Int}{mod:LI}(c:orderM p m≠0)(d:primeB p.toNat=true)(b:m≠1):fieldOK p m mod=(((mod.length:Int)==m) && mod.all (inB p) && irrM p.toNat (mod.map Int.toNat)):=by rw[qdY,shape_of c d,if_neg b];simp[b]
theorem map_nz{p:Int}{mod:LI}(h:mod.all (inB p)=true):nz (mod.map Int.toNat)=mod/\∀d∈mod.map Int.toNat,d<p.toNat:=by
 have b:=fun z c=>by have:=List.all_eq_true.1 h z c;simpa[inB] using this
 refine⟨?_,fun d hd=>?_⟩
 . unfold nz;rw[List.map_map];(conv=>rhs;rw[<- List.map_id mod]);apply List.map_congr_left;intro z c;have:=b z c;simp;omega
 . obtain⟨z,c,rfl⟩:=List.mem_map.1 hd;have:=b z c;omega
def RelMo(w1:Wo)(p:Int)(mod:LI)(v3:Value)(wr:Wo):Prop:=∃k n:Nat,k<=mod.length/\v3=Y k/\(mod.take k).all (inB p)=true/\wr=w1.drewN n
theorem rfcheck_c(p m:Int)(mod:LI)(A:OA)(c:Nat)(w:Wo)(hA:zI w A mod)(hl:mod.length<=9223372036854775807):
 zC 21 #[C4 p m A mod.length c] w fun e w'=>e=.returned (Y (errF (fieldOK p m mod)))/\zB w w':=by
 have Z:zK (SBoxF w p m A mod.length c (w.alloc (C2 p m A mod.length c))):=⟨zV.alloc zn _,U2,heap_alloc_new _ _⟩;have HA:=zH hA;clear hA;go_enter func21,ntmps21;go_upto_region 1 with fail;generalize w.alloc (C2 p m A mod.length c)=W0 at *;have C:=zH<|qeL Z.o.2.2
 have V:=zH (rorder_c p m A mod.length c W0);by_cases H:orderM p m=0
 . (have B:zK (errF (fieldOK p m mod)=1):=by show _=_;rw[fieldOK_order H];rfl);rw[H] at V;clear H;go_wp2_with (refine wpList_load_mid rfl 24 (.tmp 1) rfl w.heap.size 0 rfl (C5 p m A mod.length c) _ C.o underlying24 rfl fieldSize ?_);go_fit V.o;rintro e j ⟨rfl,hb1⟩;have d:=zH (Z.o.grow hb1);clear hb1;go_wp2;go_ret;exact⟨qaG B.o.symm,d.o.1⟩
 . have HO := zH H;obtain ⟨O,ac,P,ae⟩:=orderM_ne H;(have au:(orderM p m==0)=false:=by rw [beq_eq_false_iff_ne];exact H);(have i:zK (∀ W:Wo,zC 33 #[Y p] W fun e w'=>e=.returned (.bool (primeB p.toNat))/\W=w'):=fun W=>by have:=rprime_c p.toNat (by have:=P.p2;omega) W;rw [O] at this;exact this);have M:=zH O;have ag:=zH ac;have HS:=zH P;(have ar:m<=8:=by have:=P.m2;omega);(have aq:1<=m:=by have:=P.m1;omega);(have aw:p<=256:=by have:=P.p2;omega);(have av:2<=p:=by have:=P.p1;omega);have J:zK (primeB p.toNat=true->m=1->fieldOK p m mod=(mod.length==0)):=fun h h'=>fieldOK_one H h h';have u:zK (primeB p.toNat=true->m≠1->fieldOK p m mod=(((mod.length:Int)==m) && mod.all (inB p) && irrM p.toNat (mod.map Int.toNat))):=fun h h'=>fieldOK_more H h h';clear H O ac P ae;generalize orderM p m=q at *;cases hpr:primeB p.toNat
   . (have B:zK (errF (fieldOK p m mod)=1):=by show _=_;rw[fieldOK_prime hpr];rfl);rw[hpr] at i;clear hpr;go_wp2_with (refine wpList_load_mid rfl 24 (.tmp 1) rfl w.heap.size 0 rfl (C5 p m A mod.length c) _ C.o underlying24 rfl fieldSize ?_);go_fit V.o;rintro e j ⟨rfl,hb1⟩;have d:=zH (Z.o.grow hb1);have b0:j.cell? (zA w.heap.size 0)=some (Y p):=cell_of_row _ _ 0 _ _ _ d.o.2.2;clear hb1;go_wp2_with (go_at_call 33;(with_reducible refine(i.o _).mono ?_);rintro e w' ⟨rfl,rfl⟩);go_ret;exact⟨qaG B.o.symm,d.o.1⟩
   . have X := zH hpr;rw [hpr] at i;clear hpr;go_wp2_with (refine wpList_load_mid rfl 24 (.tmp 1) rfl w.heap.size 0 rfl (C5 p m A mod.length c) _ C.o underlying24 rfl fieldSize ?_);go_fit V.o;rintro e j ⟨rfl,hb1⟩;have d:=zH (Z.o.grow hb1);have b0:j.cell? (zA w.heap.size 0)=some (Y p):=cell_of_row _ _ 0 _ _ _ d.o.2.2;have b1:j.cell? (zA w.heap.size 1)=some (Y m):=cell_of_row _ _ 1 _ _ _ d.o.2.2;have b2:j.cell? (zA w.heap.size 2)=some (zL A mod.length c):=cell_of_row _ _ 2 _ _ _ d.o.2.2;clear hb1 V C Z;clear W0;by_cases E:m=1
     . have g:=zH (J.o X.o E);by_cases l:mod.length=0
       . (have B:zK (errF (fieldOK p m mod)=0):=by show _=_;rw[g.o,l];rfl);(have Q:((mod.length:Int) != 0)=false:=by rw[l];rfl);(have ad:(m==1)=true:=by rw[E];rfl);clear l E;go_wp2_with (go_at_call 33;(with_reducible refine(i.o _).mono ?_);rintro e w' ⟨rfl,rfl⟩);go_ret;exact⟨qaG B.o.symm,d.o.1⟩
       . (have B:zK (errF (fieldOK p m mod)=1):=by show _=_;rw[g.o,show(mod.length==0)=false by simpa using l];rfl);(have Q:((mod.length:Int) != 0)=true:=by rw[bne_iff_ne];omega);(have ad:(m==1)=true:=by rw[E];rfl);clear l E;go_wp2_with (go_at_call 33;(with_reducible refine(i.o _).mono ?_);rintro e w' ⟨rfl,rfl⟩);go_ret;exact⟨qaG B.o.symm,d.o.1⟩
     . have g := zH (u.o X.o E);(have ad:(m==1)=false:=by rw [beq_eq_false_iff_ne];exact E);have an:=zH E;clear E;by_cases l:(mod.length:Int)=m
       . (have Q : ((mod.length : Int) != m) = false := by rw [l];simp);have HZ:=zH l;have ah:mod.length<=8:=U0;clear l;have S:=zH ((HA.o.keep d.o.1).more d.o.1.size);(have L:=zH<|fun n=>qaB d.o.1 n);(have f:zK (mod.all (inB p)=false->errF (fieldOK p m mod)=1):=fun h=>by rw [g.o,h,Bool.and_false,Bool.false_and];rfl);(have s:zK (mod.all (inB p)=true->errF (fieldOK p m mod)=errF (irrM p.toNat (mod.map Int.toNat))):=fun h=>by rw [g.o,h,show ((mod.length:Int)==m)=true by rw [beq_iff_eq];exact HZ.o];rfl);have I:zK (mod.all (inB p)=true->∀ n,zC 34 #[zL A mod.length c,Y p] (j.drewN n) fun e w'=>e=.returned (.bool (irrM p.toNat (mod.map Int.toNat)))/\Below j.heap.size (j.drewN n) w'):=fun h n=>by
          obtain⟨h1,h2⟩:=map_nz h;have y:(mod.map Int.toNat).length=mod.length:=U2
          have:=rirr_c p.toNat (mod.map Int.toNat) A c (j.drewN n) (by have:=M.o;omega) (by have:=M.o;omega) (by rw[h1];exact S.o.keep (qaB zV n)) ⟨rfl,h2⟩ (by rw[y];exact ah) (by
           rw[y]
           have e:mod.length=m.toNat:=by have:=HZ.o;have:=ag.o;omega
           rw[e]
           exact HS.o.q)
          rw[y,M.o] at this;exact this
         clear g u J;go_wp2_with (go_at_call 33;(with_reducible refine(i.o _).mono ?_);rintro e w' ⟨rfl,rfl⟩);go_loopw [3] (fun v3 wr=>RelMo j p mod v3 wr) (fun v3 _=>mod.length-(intOf v3).toNat);case atStart=>exact⟨0,0,U0,rfl,U2,rfl⟩
         case round =>
          obtain⟨k,n,hk,rfl,K,rfl⟩:=hrel;have r:=zH K;clear K;(have ap:(k:Int)<=m:=by have:=HZ.o;omega);by_cases N:k<mod.length
          . obtain ⟨b,o,rfl,ao,hc⟩ := S.o.at_ N;have D:=zH (qbN (inB p) mod 0 k N);have t:=zH (qbL (inB p) mod 0 k N);(have ab:(k:Int)<m:=by have:=HZ.o;omega);have k0:(0:Int)<=(k:Int):=U0;have k1:(k:Int)<(mod.length:Int):=U0;generalize mod.getD k 0=z at *;by_cases ai:z<0
            . (have R := zH<|f.o (t.o (by unfold inB;rw [decide_eq_false U0];rfl)));clear D t;go_upto_region 12 with fail;refine qaD (SDrew j) U1 U1 ⟨n+1,by rw [<- World.drewN_drewN];rfl⟩ ?_
              repeat (first
               | (apply qaJ rfl
                  . intro W v
                    obtain⟨n',rfl⟩:=v
                    go_simp
                    rfl
                  go_simp)
               | (apply qbD rfl
                  . intro W v
                    obtain⟨n',rfl⟩:=v
                    go_simp
                    rfl
                  go_simp)
               |(apply qbI rfl;go_simp))
              refine qaE ?_;intro w2 x;obtain⟨n2,rfl⟩:=x;go_wp2;go_ret;exact⟨qaG R.o.symm,L.o _⟩
            . have ak := decide_eq_false ai;by_cases aj:p<=z
              . (have R := zH<|f.o (t.o (by unfold inB;rw [decide_eq_false (p := z < p) U0,Bool.and_false])));clear D t;go_upto_region 12 with fail;refine qaD (SDrew j) U1 U1 ⟨n+1,by rw [<- World.drewN_drewN];rfl⟩ ?_
                repeat (first
                 | (apply qaJ rfl
                    . intro W v
                      obtain⟨n',rfl⟩:=v
                      go_simp
                      rfl
                    go_simp)
                 | (apply qbD rfl
                    . intro W v
                      obtain⟨n',rfl⟩:=v
                      go_simp
                      rfl
                    go_simp)
                 |(apply qbI rfl;go_simp))
                refine qaE ?_;intro w2 x;obtain⟨n2,rfl⟩:=x;go_wp2;go_ret;exact⟨qaG R.o.symm,L.o _⟩
              . have al := decide_eq_false aj;(have HN:zK ((mod.take (k+1)).all (inB p)=true):=by show _=_;rw [D.o,r.o];unfold inB;rw [decide_eq_true (by omega:0<=z),decide_eq_true (by omega:z<p)];rfl);clear D t;go_upto_region 12 with fail;refine qaD (SDrew j) U1 U1 ⟨n+1,by rw [<- World.drewN_drewN];rfl⟩ ?_
                repeat (first
                 | (apply qaJ rfl
                    . intro W v
                      obtain⟨n',rfl⟩:=v
                      go_simp
                      rfl
                    go_simp)
                 | (apply qbD rfl
                    . intro W v
                      obtain⟨n',rfl⟩:=v
                      go_simp
                      rfl
                    go_simp)
                 |(apply qbI rfl;go_simp))
                refine qaE ?_;intro w2 x;obtain⟨n2,rfl⟩:=x;go_wp2;go_roundw;case rel=>exact⟨k+1,n2,U0,U3,HN.o,rfl⟩
                case measure=>simp[intOf];omega
          . (have aa : k = mod.length:=by omega);(have T:zK (mod.all (inB p)=true):=by have:=r.o;rw[aa,List.take_length] at this;exact this);(have ab:¬(k:Int)<m:=by have:=HZ.o;omega);have af:=zH (I.o T.o n);have R:=zH (s.o T.o);clear r I s f aa;generalize irrM p.toNat (mod.map Int.toNat)=ir at *;go_wp2_with fail;go_fit af.o;rintro e w2 ⟨rfl,hb2⟩;have U:=zH ((L.o n).trans (hb2.mono (by have:=d.o.2.1;omega)));clear hb2;cases ir
            . go_wp2;go_ret;exact⟨qaG R.o.symm,U.o⟩
            . go_wp2;go_ret;exact⟨qaG R.o.symm,U.o⟩
       . (have B:zK (errF (fieldOK p m mod)=1):=by show _=_;rw[g.o,show((mod.length:Int)==m)=false by rw[beq_eq_false_iff_ne];exact l];rfl);(have Q:((mod.length:Int) != m)=true:=by rw[bne_iff_ne];exact l);clear l;go_wp2_with (go_at_call 33;(with_reducible refine(i.o _).mono ?_);rintro e w' ⟨rfl,rfl⟩);go_ret;exact⟨qaG B.o.symm,d.o.1⟩
theorem SBoxF.c0{w:Wo}{p m:Int}{A:OA}{n c:Nat}{W:Wo}(h:SBoxF w p m A n c W):W.cell? (zA w.heap.size 0)=some (Y p):=cell_of_row _ _ 0 _ _ _ h.2.2
theorem SBoxF.c1{w:Wo}{p m:Int}{A:OA}{n c:Nat}{W:Wo}(h:SBoxF w p m A n c W):W.cell? (zA w.heap.size 1)=some (Y m):=cell_of_row _ _ 1 _ _ _ h.2.2
theorem SBoxF.c2{w:Wo}{p m:Int}{A:OA}{n c:Nat}{W:Wo}(h:SBoxF w p m A n c W):W.cell? (zA w.heap.size 2)=some (zL A n c):=cell_of_row _ _ 2 _ _ _ h.2.2
theorem SBoxF.range{w:Wo}{p m:Int}{A:OA}{n c:Nat}{W:Wo}(h:SBoxF w p m A n c W):W.rangeAt w.heap.size 0 (C5 p m A n c):=qeL h.2.2
theorem qbK(w:Wo)(p m:Int)(A:OA)(n c:Nat):SBoxF w p m A n c (w.alloc (C2 p m A n c)):=⟨zV.alloc zn _,U2,heap_alloc_new _ _⟩
theorem ris_c(p m:Int)(A:OA)(n c:Nat)(x:Int)(w:Wo):zC 142 #[C4 p m A n c,Y x] w fun e w'=>e=.returned (.bool (inB (orderM p m) x))/\zB w w':=by
 have b:zK (SBoxF w p m A n c (w.alloc (C2 p m A n c))):=⟨zV.alloc zn _,U2,heap_alloc_new _ _⟩;go_enter func142,ntmps142;go_upto_region 1 with fail;generalize w.alloc (C2 p m A n c)=j at *;have i:=zH<|qeL b.o.2.2
 by_cases g:x<0
 . (have d:zK (inB (orderM p m) x=false):=by show _=_;unfold inB;rw[decide_eq_false U0];rfl);have r:decide (0<=x)=false:=decide_eq_false U0;clear g;go_wp2;go_ret;exact⟨qaN d.o.symm,b.o.1⟩
 . (have d:zK (inB (orderM p m) x=decide (x<orderM p m)):=by show _=_;unfold inB;rw[decide_eq_true U0];rfl);have r:decide (0<=x)=true:=decide_eq_true U0;have h:=zH (rorder_c p m A n c j);have k:=b.o.c0;have l:=b.o.c1;have q:=b.o.c2;clear g;go_wp2_with fail;go_fit h.o;rintro e s ⟨rfl,hb1⟩;have f:=zH (b.o.grow hb1);clear hb1 k l q;go_wp2;go_ret;exact⟨qaN d.o.symm,f.o.1⟩
theorem rin_c(p m:Nat)(A:OA)(n c x:Nat)(w:Wo)(l:Small p m)(r:x<p^m):zC 143 #[C4 p m A n c,Y x] w fun e w'=>e=.returned (Y x)/\zB w w':=by
 have i:=zH (qbK w p m A n c);have b:inB (orderM p m) x=true:=by rw[qbX l.p1 l.p2 l.m1 l.m2,if_neg (by have:=l.q;omega)];unfold inB;rw[decide_eq_true U0,decide_eq_true U0];rfl
 have d:=zH b;clear l r b;go_enter func143,ntmps143;go_upto_region 1 with fail;generalize w.alloc (C2 p m A n c)=j at *;have f:=zH i.o.range;have h:=zH (ris_c p m A n c x j);rw[d.o] at h;go_wp2_with (refine wpList_load_mid rfl 24 (.tmp 2) rfl w.heap.size 0 rfl (C5 p m A n c) _ f.o underlying24 rfl fieldSize ?_);go_fit h.o;rintro e k ⟨rfl,hb1⟩;have g:=zH (i.o.grow hb1);clear hb1;go_wp2;go_ret;exact⟨rfl,g.o.1⟩
theorem rdig_c(p m:Nat)(A:OA)(n c x:Nat)(w:Wo)(y:Small p m)(z:x<p^m):zC 85 #[C4 p m A n c,Y x] w fun e w'=>(∃g,e=.returned (zS g m m)/\Row w' w.heap.size g m (nz (digs p m x)))/\zB w w':=by
 have b:=zH (qbK w p m A n c);have i:zK (∀W:Wo,zC 143 #[C4 p m A n c,Y x] W fun e w'=>e=.returned (Y x)/\zB W w'):=fun W=>rin_c p m A n c x W y z;have h:zK (∀W:Wo,zC 79 #[Y x,Y p,Y m] W fun e w'=>e=.returned (zS W.heap.size m m)/\Row w' W.heap.size W.heap.size m (nz (digs p m x))/\zB W w'):=fun W=>rdigits_c x p m W (by have:=y.q;omega) (by have:=y.p1;omega) (by have:=y.p2;omega) (by have:=y.m2;omega);clear y z;go_enter func85,ntmps85;go_upto_region 1 with fail;generalize w.alloc (C2 p m A n c)=l at *;have t:=b.o.c0;have u:=b.o.c1;have v:=b.o.c2;have d:=b.o.2.1
 go_region_held3 (fun w'=>w'.cell? (zA w.heap.size 0)=some (Y p)/\w'.cell? (zA w.heap.size 1)=some (Y m)/\w'.cell? (zA w.heap.size 2)=some (zL A n c)/\w.heap.size<w'.heap.size)
  (first|go_keep|(go_split_ands;first|exact⟨(hbd2.cell (p:=(zA w.heap.size 0)) am).trans am,(hbd2.cell (p:=(zA w.heap.size 1)) am).trans am,(hbd2.cell (p:=(zA w.heap.size 2)) am).trans am,Nat.lt_of_lt_of_le am hbd2.size⟩|exact⟨(hbd1.cell (p:=(zA w.heap.size 0)) am).trans am,(hbd1.cell (p:=(zA w.heap.size 1)) am).trans am,(hbd1.cell (p:=(zA w.heap.size 2)) am).trans am,Nat.lt_of_lt_of_le am hbd1.size⟩))
  (first|((with_reducible refine(i.o _).mono ?_);rintro e f ⟨rfl,hbd1⟩)|((with_reducible refine(h.o _).mono ?_);rintro e k ⟨rfl,hrowa,hbd2⟩))
 have j:zB l f:=⟨hbd1.os,hbd1.tape,hbd1.output,hbd1.size,hbd1.block⟩;have r:=zH<|b.o.1.trans ((j.mono (Nat.le_of_lt d)).trans (hbd2.mono (by have:=j.size;omega)))
 have s:zK (Row k w.heap.size f.heap.size m (nz (digs p m x))):=hrowa.base (by have:=j.size;omega);clear t u v hrowa hbd1 hbd2;go_wp2;go_ret;exact⟨⟨_,rfl,s.o⟩,r.o⟩
def RelVa(W0:Wo)(p:Nat)(l:LN)(v5 v6:Value)(wr:Wo):Prop:=∃k n:Nat,k<=l.length/\v6=Y ((k:Int)-1)/\v5=Y ((val p (l.drop k):Nat):Int)/\wr=W0.drewN n
theorem rval_c(p m:Nat)(A:OA)(n c:Nat)(l:LN)(U:OA)(cl:Nat)(w:Wo)(X:zI w U (nz l))(hp:1<=p)(Z:∀ d∈l,d<p)(hq:p ^ l.length<=1000000000)(_:p<=1000000000)(aa:l.length<=1000):
 zC 86 #[C4 p m A n c,zL U l.length cl] w fun e w'=>e=.returned (Y ((val p l:Nat):Int))/\zB w w':=by
 have h:=zH (qbK w p m A n c);have D:=zH Z;have B:=zH ((X.keep h.o.1).more h.o.1.size);clear X Z;go_enter func86,ntmps86;go_upto_region 1 with fail;generalize w.alloc (C2 p m A n c)=u at *;have T:=h.o.c0;have C:=zH<|fun n=>qaB h.o.1 n
 go_wp2;go_loopw [5,6] (fun v5 v6 wr=>RelVa u p l v5 v6 wr) (fun _ v6 _=>(intOf v6+1).toNat);case atStart=>exact⟨l.length,0,Nat.le_refl _,rfl,by simp[val],rfl⟩
 case round =>
  obtain⟨k,L,N,rfl,rfl,rfl⟩:=hrel;rcases k with _|k
  . go_wp2;go_ret;exact⟨qaG U2,C.o _⟩
  . obtain ⟨b,o,rfl,K,J⟩ := B.o.at_ (k := k) (by rw [qaA];omega);rw [qaC] at J;have t:=zH (val_drop p l k U0);have q:=val_drop_lt hp D.o k;have r:p ^ (l.length-k)<=p ^ l.length:=Nat.pow_le_pow_right hp U0;have g:val p (l.drop k)<=1000000000:=U0;(have j:val p (l.drop (k+1))*p+l.getD k 0<=1000000000:=by rw [<- t.o];exact g);generalize val p (l.drop (k+1))=y at *;generalize l.getD k 0=z at *;(have v:zK (IntKind.i64.wrap ((y:Int)*(p:Int))=((y*p:Nat):Int)):=by show _=_;rw [<- Int.natCast_mul];exact IntWalk.i64_in _ U0);generalize y*p=s at *;(have x:zK (IntKind.i64.wrap ((s:Int)+(z:Int))=((s+z:Nat):Int)):=by show _=_;rw [Int.natCast_add];exact IntWalk.i64_in _ U0);generalize s+z=S at *;have f:((k+1:Nat):Int)-1=(k:Int):=U0;have O:(0:Int)<=(k:Int):=U0;have P:(k:Int)<(l.length:Int):=U0;rw [f];clear q r g j f;go_upto_region 5 with fail;have E:=v.o;have H:=x.o;refine qaD (SDrew u) U1 U1 ⟨L+1,by rw [<- World.drewN_drewN];rfl⟩ ?_
    repeat (apply qaJ rfl
            . intro W I;obtain⟨Q,rfl⟩:=I;go_simp;rfl
            go_simp)
    refine qaE ?_;intro R i;obtain⟨M,rfl⟩:=i;clear E H;go_wp2;go_roundw;case rel=>exact⟨k,M,U0,rfl,by rw[t.o],rfl⟩
    case measure=>simp[intOf]
def rK(r a:LN)(k:Nat):LN:=r.take k++a.drop k
theorem rK_len(r a:LN)(c:r.length=a.length)(k:Nat)(b:k<=a.length):(rK r a k).length=a.length:=by unfold rK;rw[List.length_append,List.length_take,List.length_drop];omega
theorem rK_at(r a:LN)(c:r.length=a.length)(k:Nat)(b:k<a.length):(rK r a k).getD k 0=a.getD k 0:=by
 unfold rK;have h:(r.take k).length=k:=by rw[List.length_take];omega
 simp only[List.getD];rw[List.getElem?_append_right U0,h,Nat.sub_self,List.getElem?_drop,Nat.add_zero]
theorem rK_set(r a:LN)(c:r.length=a.length)(k:Nat)(b:k<a.length):(rK r a k).set k (r.getD k 0)=rK r a (k+1):=by
 unfold rK;have h:(r.take k).length=k:=by rw[List.length_take];omega
 rw[List.set_append_right _ _ U0,h,Nat.sub_self,List.drop_eq_getElem_cons b,List.set_cons_zero,List.take_succ_eq_append_getElem (l:=r) U0,List.append_assoc];simp[List.getD,show k<r.length by omega]
theorem rK_end(r a:LN)(b:r.length=a.length):rK r a a.length=r:=by unfold rK;rw[<- b,List.take_length,b,List.drop_length,List.append_nil]
theorem SBoxF.wrote{w:Wo}{p m:Int}{A:OA}{n c:Nat}{W:Wo}(h:SBoxF w p m A n c W){g k:Nat}(b:w.heap.size<g)(u:Value):SBoxF w p m A n c (W.setCell (zA g k) u):=
 ⟨h.1.setCell (p:=(zA g k)) (Nat.le_of_lt b) u,by simpa using h.2.1,(Below.heap_setCell W (zA g k) u w.heap.size (by show w.heap.size≠g;omega)).trans h.2.2⟩
theorem SBoxF.drewN{w:Wo}{p m:Int}{A:OA}{n c:Nat}{W:Wo}(h:SBoxF w p m A n c W)(k:Nat):SBoxF w p m A n c (W.drewN k):=⟨qaB h.1 k,h.2.1,h.2.2⟩
def RelAd2(w:Wo)(p m:Nat)(A:OA)(n c ga gb:Nat)(r a b:LN)(v9:Value)(wr:Wo):Prop:=
 ∃k:Nat,k<=m/\v9=Y (k:Int)/\Row wr (w.heap.size+1) ga m (nz (rK r a k))/\Row wr (w.heap.size+1) gb m (nz b)/\SBoxF w p m A n c wr
theorem radd_c(p m:Nat)(A:OA)(n c x y:Nat)(w:Wo)(hs:Small p m)(hx:x<p ^ m)(hy:y<p ^ m):zC 87 #[C4 p m A n c,Y x,Y y] w fun e w'=>e=.returned (Y ((addD p m x y:Nat):Int))/\zB w w':=by
 have HX:=zH (qbK w p m A n c);have Q:zK (∀W:Wo,zC 85 #[C4 p m A n c,Y x] W fun e w'=>(∃g,e=.returned (zS g m m)/\Row w' W.heap.size g m (nz (digs p m x)))/\zB W w'):=fun W=>rdig_c p m A n c x W hs hx;have R:zK (∀W:Wo,zC 85 #[C4 p m A n c,Y y] W fun e w'=>(∃g,e=.returned (zS g m m)/\Row w' W.heap.size g m (nz (digs p m y)))/\zB W w'):=fun W=>rdig_c p m A n c y W hs hy;have ax:=hs.p1;have ay:=hs.p2;have av:=hs.m2;have ak:=zH (addD_val p m x y);have N:=qaK p m x;have O:=qaK p m y;have ad:zK (∀k,(digs p m x).getD k 0<p/\(digs p m y).getD k 0<p):=fun k=>⟨qeV U0 (qcB U0 m x) k,qeV U0 (qcB U0 m y) k⟩;have X:(List.zipWith (fun a b=>(a+b) % p) (digs p m x) (digs p m y)).length=m:=by rw[List.length_zipWith,N,O,Nat.min_self]
 have ah:zK (∀k,k<m->(List.zipWith (fun a b=>(a+b) % p) (digs p m x) (digs p m y)).getD k 0=((digs p m x).getD k 0+(digs p m y).getD k 0) % p):=fun k K=>by
  have e1:(digs p m x)[k]?=some ((digs p m x).getD k 0):=by simp[List.getD,show k<(digs p m x).length by omega]
  have e2:(digs p m y)[k]?=some ((digs p m y).getD k 0):=by simp[List.getD,show k<(digs p m y).length by omega]
  rw[List.getD_eq_getElem?_getD,List.getElem?_zipWith,e1,e2];rfl
 have al:zK (∀(l:LN)(Al:OA)(W:Wo),l.length=m->(∀d∈l,d<p)->zI W Al (nz l)->zC 86 #[C4 p m A n c,zL Al m m] W fun e w'=>e=.returned (Y ((val p l:Nat):Int))/\zB W w'):=fun l Al W h1 h2 h3=>by have:=rval_c p m A n c l Al m W h3 U0 h2 (by rw[h1];have:=hs.q;omega) U0 U0;rw[h1] at this;exact this
 have af:zK (∀d∈List.zipWith (fun a b=>(a+b) % p) (digs p m x) (digs p m y),d<p):=fun d hd=>by obtain⟨i,hi,rfl⟩:=List.mem_iff_getElem.1 hd;rw[List.getElem_zipWith];exact Nat.mod_lt _ U0
 have h:=zH N;have C:=zH X;have ac:=zH O;clear hs hx hy N O X;generalize List.zipWith (fun a b=>(a+b) % p) (digs p m x) (digs p m y)=r at *;generalize digs p m x=a at *;generalize digs p m y=b at *;have aj:=zH (fun k K=>rK_set r a (by rw[C.o,h.o]) k K);have ae:=zH (fun k K=>rK_at r a (by rw[C.o,h.o]) k K);have ai:=zH (fun k K=>rK_len r a (by rw[C.o,h.o]) k K);have ag:=zH (rK_end r a (by rw[C.o,h.o]));go_enter func87,ntmps87;go_upto_region 1 with fail;have L:zK (w.heap.size+1=(w.alloc (C2 p m A n c)).heap.size):=U7;generalize w.alloc (C2 p m A n c)=W0 at *;have f:=zH HX.o.range;go_wp2_with (refine wpList_load_mid rfl 24 (.tmp 3) rfl w.heap.size 0 rfl (C5 p m A n c) _ f.o underlying24 rfl fieldSize ?_);(with_reducible refine(Q.o W0).mono ?_);rintro e w1 ⟨⟨ga,rfl,B⟩,hb1⟩;have M:=zH (HX.o.grow hb1);have j:zK (Row w1 (w.heap.size+1) ga m (nz a)):=B.base (by have:=B.lt;have:=L.out;omega);have ap:=hb1.size;clear B hb1 HX f;have f:=zH M.o.range;go_wp2_with (refine wpList_load_mid rfl 24 (.tmp 3) rfl w.heap.size 0 rfl (C5 p m A n c) _ f.o underlying24 rfl fieldSize ?_);(with_reducible refine(R.o w1).mono ?_);rintro e w2 ⟨⟨gb,rfl,s⟩,hb2⟩;have V:=zH (M.o.grow hb2);have aa:=zH<|Nat.lt_of_lt_of_le j.o.lt.2 s.lt.1
 have I:zK (Row w2 (w.heap.size+1) gb m (nz b)):=s.base (by have:=s.lt;have:=L.out;omega);have H:=zH<|j.o.below hb2 j.o.lt.2
 have Z:zK (w.heap.size<ga):=j.o.lt.1;clear s hb2 ap M f j Q R;clear w1;have T:zK (RelAd2 w p m A n c ga gb r a b (Y ((0:Nat):Int)) w2):=⟨0,Nat.zero_le _,rfl,by simpa[rK] using H.o,I.o,V.o⟩;clear V H I;go_wp2;go_loopw [9] (fun v9 wr=>RelAd2 w p m A n c ga gb r a b v9 wr) (fun v9 _=>m-(intOf v9).toNat);case atStart=>exact T.o
 case round =>
  obtain⟨k,K,rfl,B,s,hx⟩:=hrel;have t:=zH B;have J:=zH s;have E:=zH hx;clear B s hx T;by_cases D:k<m
  . (have ya : wr.cell? (zA ga k) = some (Y ((a.getD k 0 : Nat) : Int)) := by rw [<- ae.o k (by rw [h.o];exact D),<- qaC];exact t.o.cell (by rw [qaA,ai.o k (by rw [h.o];exact K),h.o];exact D));(have yb:wr.cell? (zA gb k)=some (Y ((b.getD k 0:Nat):Int)):=by rw [<- qaC];exact J.o.cell (by rw [qaA,ac.o];exact D));have y0:=E.o.c0;have f1:=t.o.frozen k;have U:=zH (aj.o k (by rw [h.o];exact D));have ab:=zH (ah.o k D);obtain ⟨ar,au⟩:=ad.o k;have T1:zK (Int.tmod ((a.getD k 0+b.getD k 0:Nat):Int) (p:Int)=(((a.getD k 0+b.getD k 0) % p:Nat):Int)):=qaY _ _;generalize a.getD k 0=u at *;generalize b.getD k 0=v at *;(have E1:zK (IntKind.i64.wrap ((u:Int)+(v:Int))=((u+v:Nat):Int)):=by show _=_;rw [Int.natCast_add];exact IntWalk.i64_in _ U0);generalize (u+v) % p=z at *;generalize u+v=uv at *;have aw:¬ (p:Int)=0:=U0;have aq:¬ p=0:=U0;have k0:(0:Int)<=(k:Int):=U0;have k1:(k:Int)<(m:Int):=U0;go_upto_region 6 with fail;have e1:=E1.o;have t1:=T1.out;refine qaI 15 (SDrew wr) U1 U1 ⟨1,rfl⟩ ?_;simp only [List.take_succ_cons,List.take_zero,List.drop_succ_cons,List.drop_zero]
    repeat (apply qaJ rfl
            . intro W hS;obtain⟨n',rfl⟩:=hS;go_simp;rfl
            go_simp)
    refine qaE ?_;intro w3 ao;obtain⟨n3,rfl⟩:=ao;clear e1 t1 yb y0;go_wp2;go_roundw;case rel=>exact⟨k+1,U0,U3,by rw[<- U.o,ab.o,<- qbC];exact Row.set (w:=wr.drewN n3) t.o k z,Row.far (w:=wr.drewN n3) J.o (p:=(zA ga k)) (by show gb≠ga;have:=aa.o;omega) _,(E.o.drewN n3).wrote Z.o _⟩
    case measure=>simp[intOf];omega
  . (obtain rfl:k=m:=by omega);(have S:zK (Row wr (w.heap.size+1) ga k (nz r)):=by have:=t.o;have e:=ag.o;rw[h.o] at e;rw[e] at this;exact this);have P:=zH (al.o r (zO ga) wr C.o af.o (S.o.ints S.o.lt.2));rw[<- ak.o] at P;have f:=zH E.o.range;go_wp2_with (refine wpList_load_mid rfl 24 (.tmp 3) rfl w.heap.size 0 rfl (C5 p k A n c) _ f.o underlying24 rfl fieldSize ?_);go_fit P.o;rintro e w4 ⟨rfl,hb4⟩;have an:=zH (E.o.grow hb4);clear hb4;go_wp2;go_ret;exact⟨rfl,an.o.1⟩
def RelNg2(w:Wo)(p m:Nat)(A:OA)(n c ga:Nat)(r a:LN)(v9:Value)(wr:Wo):Prop:=
 ∃k:Nat,k<=m/\v9=Y (k:Int)/\Row wr (w.heap.size+1) ga m (nz (rK r a k))/\SBoxF w p m A n c wr
theorem rneg_c(p m:Nat)(A:OA)(n c x:Nat)(w:Wo)(hs:Small p m)(hx:x<p ^ m):zC 38 #[C4 p m A n c,Y x] w fun e w'=>e=.returned (Y ((negD p m x:Nat):Int))/\zB w w':=by
 have HX:=zH (qbK w p m A n c);have E:zK (∀W:Wo,zC 85 #[C4 p m A n c,Y x] W fun e w'=>(∃g,e=.returned (zS g m m)/\Row w' W.heap.size g m (nz (digs p m x)))/\zB W w'):=fun W=>rdig_c p m A n c x W hs hx;have ag:=hs.p1;have ah:=hs.p2;have ae:=hs.m2;have X:=zH (negD_val p m x);have C:=qaK p m x;have P:zK (∀k,(digs p m x).getD k 0<p):=fun k=>qeV U0 (qcB U0 m x) k;have L:((digs p m x).map fun a=>(p-a) % p).length=m:=by rw[List.length_map,C]
 have T:zK (∀k,k<m->((digs p m x).map fun a=>(p-a) % p).getD k 0=(p-(digs p m x).getD k 0) % p):=fun k B=>by
  have e1:(digs p m x)[k]?=some ((digs p m x).getD k 0):=by simp[List.getD,show k<(digs p m x).length by omega]
  rw[List.getD_eq_getElem?_getD,List.getElem?_map,e1];rfl
 have Z:zK (∀(l:LN)(Al:OA)(W:Wo),l.length=m->(∀d∈l,d<p)->zI W Al (nz l)->zC 86 #[C4 p m A n c,zL Al m m] W fun e w'=>e=.returned (Y ((val p l:Nat):Int))/\zB W w'):=fun l Al W h1 h2 h3=>by have:=rval_c p m A n c l Al m W h3 U0 h2 (by rw[h1];have:=hs.q;omega) U0 U0;rw[h1] at this;exact this
 have R:zK (∀d∈(digs p m x).map fun a=>(p-a) % p,d<p):=fun d hd=>by obtain⟨i,_,rfl⟩:=List.mem_map.1 hd;exact Nat.mod_lt _ U0
 have b:=zH C;have s:=zH L;clear hs hx C L;generalize ((digs p m x).map fun a=>(p-a) % p)=r at *;generalize digs p m x=a at *;have V:=zH (fun k B=>rK_set r a (by rw[s.o,b.o]) k B);have Q:=zH (fun k B=>rK_at r a (by rw[s.o,b.o]) k B);have U:=zH (fun k B=>rK_len r a (by rw[s.o,b.o]) k B);have S:=zH (rK_end r a (by rw[s.o,b.o]));go_enter func38,ntmps38;go_upto_region 1 with fail;have M:zK (w.heap.size+1=(w.alloc (C2 p m A n c)).heap.size):=U7;generalize w.alloc (C2 p m A n c)=W0 at *;have h:=zH HX.o.range;go_wp2_with (refine wpList_load_mid rfl 24 (.tmp 2) rfl w.heap.size 0 rfl (C5 p m A n c) _ h.o underlying24 rfl fieldSize ?_);(with_reducible refine(E.o W0).mono ?_);rintro e w1 ⟨⟨ga,rfl,j⟩,hb1⟩;have K:=zH (HX.o.grow hb1);have t:zK (Row w1 (w.heap.size+1) ga m (nz a)):=j.base (by have:=j.lt;have:=M.out;omega);have N:zK (w.heap.size<ga):=t.o.lt.1;clear j hb1 HX h E;have I:zK (RelNg2 w p m A n c ga r a (Y ((0:Nat):Int)) w1):=⟨0,Nat.zero_le _,rfl,by simpa[rK] using t.o,K.o⟩;clear K t;go_wp2;go_loopw [6] (fun v9 wr=>RelNg2 w p m A n c ga r a v9 wr) (fun v9 _=>m-(intOf v9).toNat);case atStart=>exact I.o
 case round =>
  obtain⟨k,B,rfl,j,hx⟩:=hrel;have f:=zH j;have v:=zH hx;clear j hx I;by_cases y:k<m
  . (have ya : wr.cell? (zA ga k) = some (Y ((a.getD k 0 : Nat) : Int)) := by rw [<- Q.o k (by rw [b.o];exact y),<- qaC];exact f.o.cell (by rw [qaA,U.o k (by rw [b.o];exact B),b.o];exact y));have y0:=v.o.c0;have f1:=f.o.frozen k;have J:=zH (V.o k (by rw [b.o];exact y));have O:=zH (T.o k y);have ad:=P.o k;have T1:zK (Int.tmod ((p-a.getD k 0:Nat):Int) (p:Int)=(((p-a.getD k 0) % p:Nat):Int)):=qaY _ _;generalize a.getD k 0=u at *;(have E1:zK (IntKind.i64.wrap ((p:Int)-(u:Int))=((p-u:Nat):Int)):=by show _=_;rw [Int.natCast_sub U0];exact IntWalk.i64_in _ U0);generalize (p-u) % p=z at *;generalize p-u=uv at *;have af:¬ (p:Int)=0:=U0;have ac:¬ p=0:=U0;have k0:(0:Int)<=(k:Int):=U0;have k1:(k:Int)<(m:Int):=U0;go_upto_region 5 with fail;have e1:=E1.o;have t1:=T1.out;refine qaI 13 (SDrew wr) U1 U1 ⟨1,rfl⟩ ?_;simp only [List.take_succ_cons,List.take_zero,List.drop_succ_cons,List.drop_zero]
    repeat (apply qaJ rfl
            . intro W hS;obtain⟨n',rfl⟩:=hS;go_simp;rfl
            go_simp)
    refine qaE ?_;intro w3 ab;obtain⟨n3,rfl⟩:=ab;clear e1 t1 y0;go_wp2;go_roundw;case rel=>exact⟨k+1,U0,U3,by rw[<- J.o,O.o,<- qbC];exact Row.set (w:=wr.drewN n3) f.o k z,(v.o.drewN n3).wrote N.o _⟩
    case measure=>simp[intOf];omega
  . (obtain rfl:k=m:=by omega);(have H:zK (Row wr (w.heap.size+1) ga k (nz r)):=by have:=f.o;have e:=S.o;rw[b.o] at e;rw[e] at this;exact this);have D:=zH (Z.o r (zO ga) wr s.o R.o (H.o.ints H.o.lt.2));rw[<- X.o] at D;have h:=zH v.o.range;go_wp2_with (refine wpList_load_mid rfl 24 (.tmp 2) rfl w.heap.size 0 rfl (C5 p k A n c) _ h.o underlying24 rfl fieldSize ?_);go_fit D.o;rintro e w4 ⟨rfl,hb4⟩;have aa:=zH (v.o.grow hb4);clear hb4;go_wp2;go_ret;exact⟨rfl,aa.o.1⟩
end Go.Proofs.YtflejelbdlelpaaGreat
