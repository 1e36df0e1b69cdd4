/- Parts of the proof. -/
import Derived.Test.YtflejelbdlelpaaGreatR09
set_option maxRecDepth 100000
set_option maxHeartbeats 8000000
namespace Go.Proofs.YtflejelbdlelpaaGreat
open Go.RowKit Pln Go.Proofs.Tryz
def elemsB(q:Nat)(zs:LI):Bool:=zs.all (inB q)
def errE(b:Bool):Int:=if b=true then 0 else 2
theorem entries_c(gb p m B:Nat)(l J:LN)(zs:LI)(A:OA)(c:Nat)(w:Wo)(I:GFAt w B gb p m l J)(H:zI w A zs)(K:zs.length<=9223372036854775807):
 zC 188 #[zP gb,zL A zs.length c] w fun e w'=>e=.returned (Y (errE (elemsB (p^m) zs)))/\w=w':=by
 have v:=zH H;have u:zK (∀x:Int,zC 187 (Cj gb x) w fun e w'=>e=.returned (.bool (inB ((p^m:Nat):Int) x))/\w=w'):=fun x=>is_c x gb p m B l J w I;clear H I;generalize p^m=q at *;go_enter func188,ntmps188;go_wp2;go_loop [9] (fun v9=>∃k:Nat,k<=zs.length/\v9=Y k/\(zs.take k).all (inB q)=true) (fun v9=>zs.length-(intOf v9).toNat);case atStart=>exact⟨0,U0,rfl,U2⟩
 case round =>
  obtain⟨k,E,rfl,g⟩:=hrel;have f:=zH g;clear g;by_cases d:k<zs.length
  . obtain ⟨b,o,rfl,C,D⟩ := v.o.at_ d;(have t:zK ((zs.take (k+1)).all (inB q)=((zs.take k).all (inB q) && inB q (zs.getD k 0))):=by show _=_;rw [List.take_succ_eq_append_getElem d,List.all_append];simp [List.getD,d]);(have n:zK (inB q (zs.getD k 0)=false->elemsB q zs=false):=fun h=>by unfold elemsB;rw [List.all_eq_false];exact ⟨zs.getD k 0,by rw [List.getD_eq_getElem?_getD,List.getElem?_eq_getElem d];exact List.getElem_mem d,by rw [h];simp⟩);generalize zs.getD k 0=z at *;by_cases r:inB q z=true
    . (have i : zK (zC 187 (Cj gb z) w fun e w'=>e = .returned (.bool true)/\w = w'):=by have:=u.o z;rw[r] at this;exact this);have y:=zH r;clear r;go_wp2_with (go_at_call 187;go_fit i.o;rintro e w' ⟨rfl,rfl⟩);go_round;case rel=>exact⟨k+1,U0,U3,by rw[t.o,f.o,y.o];rfl⟩
      case measure=>simp[intOf];omega
    . (have j:inB q z=false:=by simpa using r);(have i:zK (zC 187 (Cj gb z) w fun e w'=>e=.returned (.bool false)/\w=w'):=by have:=u.o z;rw[j] at this;exact this);(have s:zK (errE (elemsB q zs)=2):=by show _=_;rw[n.o j];rfl);clear r j;go_wp2_with (go_at_call 187;go_fit i.o;rintro e w' ⟨rfl,rfl⟩);go_ret;exact⟨qaG s.o.symm,rfl⟩
  . (have s:zK (errE (elemsB q zs)=0):=by show _=_;have:=f.o;rw[List.take_of_length_le U0] at this;unfold elemsB;rw[this];rfl);go_wp2;go_ret;exact⟨qaG s.o.symm,rfl⟩
def checkZ(q:Nat)(cols:Int)(zs:List LI):Int:=
 if cols<0\/256<cols\/256<zs.length then 3 else if zs.all (fun r=>decide ((r.length:Int)=cols))=false then 3 else if zs.all (elemsB q)=false then 2 else 0
theorem qeC{q:Nat}{cols:Int}{zs:List LI}(h:cols<0\/256<cols\/256<zs.length):checkZ q cols zs=3:=by unfold checkZ;rw[if_pos h]
theorem check_big(gb:Nat)(q:Nat)(cols:Int)(zs:List LI)(A:OA)(c:Nat)(w:Wo)(j:zs.length<=9223372036854775807)(h:cols<0\/256<cols\/256<zs.length):
 zC 221 #[zP gb,Cp cols A zs.length c] w fun e w'=>e=.returned (Y (checkZ q cols zs))/\zB w w':=by
 have d:=zH (qeC (q:=q) h);have b:zK (zB w (w.alloc (C9 cols A zs.length c))):=zV.alloc zn _;by_cases f:cols<0
 . go_enter func221,ntmps221;go_wp2;go_ret;exact⟨qaG d.o.symm,b.o⟩
 . by_cases g : 256 < cols
   . go_enter func221,ntmps221;go_wp2;go_ret;exact⟨qaG d.o.symm,b.o⟩
   . (have i:256<zs.length:=by omega);clear h;go_enter func221,ntmps221;go_wp2;go_ret;exact⟨qaG d.o.symm,b.o⟩
theorem qbN{α:Type}(f:α->Bool)(l:List α)(d:α)(k:Nat)(b:k<l.length):(l.take (k+1)).all f=((l.take k).all f && f (l.getD k d)):=by rw[List.take_succ_eq_append_getElem b,List.all_append];simp[List.getD,b]
theorem qbL{α:Type}(f:α->Bool)(l:List α)(d:α)(k:Nat)(b:k<l.length)(h:f (l.getD k d)=false):l.all f=false:=by rw[List.all_eq_false];exact⟨l.getD k d,by rw[List.getD_eq_getElem?_getD,List.getElem?_eq_getElem b];exact List.getElem_mem b,by rw[h];simp⟩
theorem all_at{α:Type}(f:α->Bool)(l:List α)(d:α)(k:Nat)(b:k<l.length)(h:l.all f=true):f (l.getD k d)=true:=by
 cases hf:f (l.getD k d)
 . rw[qbL f l d k b hf] at h;cases h
 . rfl
theorem check_c(gb p m B:Nat)(l lg:LN)(cols:Int)(zs:List LI)(A:OA)(c:Nat)(w:Wo)(hG:GFAt w B gb p m l lg)(hB:B<=w.heap.size)(hA:zR w A zs)(hl:zs.length<=9223372036854775807):
 zC 221 #[zP gb,Cp cols A zs.length c] w fun e w'=>e=.returned (Y (checkZ (p^m) cols zs))/\zB w w':=by
 by_cases i:cols<0\/256<cols\/256<zs.length
 . exact check_big gb (p^m) cols zs A c w hl i
 . (have J : zK (zs.all (fun r => decide ((r.length : Int) = cols)) = false -> checkZ (p ^ m) cols zs = 3) := fun h => by unfold checkZ;rw [if_neg i,if_pos h]);(have M:zK (zs.all (fun r=>decide ((r.length:Int)=cols))=true->zs.all (elemsB (p ^ m))=false->checkZ (p ^ m) cols zs=2):=fun h h'=>by unfold checkZ;rw [if_neg i,if_neg (by simp [h]),if_pos h']);(have N:zK (zs.all (fun r=>decide ((r.length:Int)=cols))=true->zs.all (elemsB (p ^ m))=true->checkZ (p ^ m) cols zs=0):=fun h h'=>by unfold checkZ;rw [if_neg i,if_neg (by simp [h]),if_neg (by simp [h'])]);have S:¬ cols<0:=U0;have T:¬ 256<cols:=U0;have U:¬ 256<(zs.length:Int):=U0;have s:zK (zB w (w.alloc (C9 cols A zs.length c))):=zV.alloc zn _;have I:zK ((w.alloc (C9 cols A zs.length c)).heap[w.heap.size]?=some (C9 cols A zs.length c)):=heap_alloc_new _ _;have Q:=zH ((hA.keep s.o).more (B':=(w.alloc (C9 cols A zs.length c)).heap.size) U2);have L:=zH (hG.keep (s.o.mono hB));clear hA hG i;go_enter func221,ntmps221;go_wp2_with fail;generalize w.alloc (C9 cols A zs.length c)=v at *;have X:v.cell? (zA w.heap.size 0)=some (Y cols):=cell_of_row _ _ 0 _ _ _ I.o;have Z:v.cell? (zA w.heap.size 1)=some (zL A zs.length c):=cell_of_row _ _ 1 _ _ _ I.o;go_loop [27] (fun v27=>∃ k:Nat,k<=zs.length/\v27=Y k/\(zs.take k).all (fun r=>decide ((r.length:Int)=cols))=true) (fun v27=>zs.length-(intOf v27).toNat);case atStart=>exact ⟨0,U0,rfl,U2⟩
   case round =>
    obtain⟨k,W,rfl,g⟩:=hrel;have d:=zH g;clear g;by_cases j:k<zs.length
    . obtain ⟨b,o,x,z,rfl,R,V,K⟩ := Q.o.at_ j;have u:=zH (qbN (fun r:LI=>decide ((r.length:Int)=cols)) zs [] k j);have t:=zH (qbL (fun r:LI=>decide ((r.length:Int)=cols)) zs [] k j);clear K;generalize (zs.getD k []).length=n at *;by_cases q:(n:Int)=cols
      . (have O : ((n : Int) != cols) = false:=by simp[q]);(have y:zK ((zs.take (k+1)).all (fun r=>decide ((r.length:Int)=cols))=true):=by show _=_;rw[u.o,d.o,q];simp);clear q;go_wp2;go_round;case rel=>exact⟨k+1,U0,U3,y.o⟩
        case measure=>simp[intOf];omega
      . (have O:((n:Int) != cols)=true:=by simp[q]);(have y:=zH<|J.o (t.o (by simp[q])));clear q;go_wp2;go_ret;exact⟨qaG y.o.symm,s.o⟩
    . (obtain rfl : k = zs.length := by omega);(have f:zK (zs.all (fun r=>decide ((r.length:Int)=cols))=true):=by have:=d.o;rw [List.take_length] at this;exact this)
      have D:zK (∀(r:LI)(x:OA)(z:Nat),zI v x r->r.length<=9223372036854775807->zC 188 #[zP gb,zL x r.length z] v fun e w'=>e=.returned (Y (errE (elemsB (p^m) r)))/\v=w'):=
       fun r x z h1 h2=>entries_c gb p m B l lg r x z v L.o h1 h2
      clear d J;go_wp2;go_loop [40] (fun v40=>∃k:Nat,k<=zs.length/\v40=Y k/\(zs.take k).all (elemsB (p^m))=true) (fun v40=>zs.length-(intOf v40).toNat);case atStart=>exact⟨0,U0,rfl,U2⟩
      case round =>
       obtain⟨k,W,rfl,g⟩:=hrel;have d:=zH g;clear g;by_cases j:k<zs.length
       . obtain ⟨b,o,x,z,rfl,R,V,K⟩ := Q.o.at_ j;have u:=zH (qbN (elemsB (p ^ m)) zs [] k j);have t:=zH (qbL (elemsB (p ^ m)) zs [] k j);(have P:((zs.getD k []).length:Int)=cols:=by simpa using all_at _ zs [] k j f.o);have H:=zH (D.o (zs.getD k []) x z K U0);clear K P;generalize zs.getD k []=r at *;by_cases q:elemsB (p ^ m) r=true
         . rw[q] at H;have C:zK (zC 188 #[zP gb,zL x r.length z] v fun e w'=>e=.returned (Y 0)/\v=w'):=H.o;(have y:zK ((zs.take (k+1)).all (elemsB (p^m))=true):=by show _=_;rw[u.o,d.o,q];rfl);clear q H u t f D;go_wp2_with (go_at_call 188;go_fit C.o;rintro e w' ⟨rfl,rfl⟩);go_round;case rel=>exact⟨k+1,U0,U3,y.o⟩
           case measure=>simp[intOf];omega
         . (have E:elemsB (p^m) r=false:=by simpa using q);rw[E] at H;have C:zK (zC 188 #[zP gb,zL x r.length z] v fun e w'=>e=.returned (Y 2)/\v=w'):=H.o;(have y:=zH<|M.o f.o (t.o E));clear q E H u t f D;go_wp2_with (go_at_call 188;go_fit C.o;rintro e w' ⟨rfl,rfl⟩);go_ret;exact⟨qaG y.o.symm,s.o⟩
       . (have y:=zH<|N.o f.o (by have:=d.o;rw[List.take_of_length_le U0] at this;exact this));go_wp2;go_ret;exact⟨qaG y.o.symm,s.o⟩
theorem qcQ{α:Type}{l f:List α}(d:α){k:Nat}(i:k<l.length)(g:k<f.length)(h:l.take k=f.take k)(j:l.getD k d=f.getD k d):l.take (k+1)=f.take (k+1):=by
 rw[List.take_succ_eq_append_getElem i,List.take_succ_eq_append_getElem g,h];have b:l.getD k d=l[k]:=by simp[List.getD,i]
 have c:f.getD k d=f[k]:=by simp[List.getD,g]
 rw[<- b,<- c,j]
def RelEq{α:Type}(l l':List α)(w:Wo)(v:Value)(wr:Wo):Prop:=∃k n:Nat,k<=l.length/\v=Y k/\l.take k=l'.take k/\wr=w.drewN n
theorem sequal_c(zs R:LI)(A T:OA)(c V:Nat)(w:Wo)(U:zI w A zs)(S:zI w T R)(W:zs.length<=9223372036854775807):
 zC 77 #[zL A zs.length c,zL T R.length V] w (Quiet (.bool (decide (zs=R))) w):=by
 have C:=zH U;have m:=zH S;clear U S;by_cases d:zs.length=R.length
 . have r : zK (∀ k,k < zs.length -> zs.getD k 0 ≠ R.getD k 0 -> decide (zs = R) = false) := fun k u h => decide_eq_false (fun e => h (by rw [e]));have i:zK (zs.take zs.length=R.take zs.length->decide (zs=R)=true):=fun h=>decide_eq_true (by rw [List.take_length,d,List.take_length] at h;exact h);have t:zK (∀ k,k<zs.length->zs.take k=R.take k->zs.getD k 0=R.getD k 0->zs.take (k+1)=R.take (k+1)):=fun k u h he=>qcQ 0 u U0 h he;have v:((zs.length:Int) != (R.length:Int))=false:=so;have J:R.length<=zs.length:=U0;have B:zs.length<=R.length:=U0;clear d;go_enter func77,ntmps77;go_wp2;go_loopw [13] (fun v13 wr=>RelEq zs R w v13 wr) (fun v13 _=>zs.length-(intOf v13).toNat);case atStart=>exact ⟨0,0,U0,rfl,U2,rfl⟩
   case round =>
    obtain⟨k,n,u,rfl,l,rfl⟩:=hrel;have j:=zH l;clear l;by_cases f:k<zs.length
    . obtain ⟨b,o,rfl,L,M⟩ := C.o.at_ f;obtain ⟨K,Q,rfl,H,I⟩:=m.o.at_ (k:=k) U0;have D:=zH (r.o k f);have E:=zH (t.o k f j.o);generalize zs.getD k 0=z at *;generalize R.getD k 0=y at *;have N:(0:Int)<=(k:Int):=U0;have O:(k:Int)<(zs.length:Int):=U0;have P:(k:Int)<(R.length:Int):=U0;by_cases g:z=y
      . (have x : (z != y) = false:=by simp[g]);have s:=zH (E.o g);clear g;go_upto_region 6 with fail;go_quiet (fail);go_wp2;go_roundw;case rel=>exact⟨k+1,n+nq,U0,U3,s.o,rfl⟩
        case measure=>simp[intOf];omega
      . (have x:(z != y)=true:=by simp[g]);have q:=zH (D.o g);clear g;go_upto_region 6 with fail;go_quiet (fail);go_wp2;go_ret;exact⟨qaN q.o.symm,n+nq,df⟩
    . (obtain rfl:k=zs.length:=by omega);have p:=zH (i.o j.o);go_wp2;go_ret;exact⟨qaN p.o.symm,n,rfl⟩
 . (have v:((zs.length:Int) != (R.length:Int))=true:=by simp;omega);have p:zK (decide (zs=R)=false):=decide_eq_false (fun e=>d (by rw[e]));clear d;go_enter func77,ntmps77;go_wp2;go_ret;exact⟨qaN p.o.symm,0,rfl⟩
theorem sequalf_c(zs ys:List LI)(A A':OA)(c c':Nat)(w:Wo)(hA:zR w A zs)(aa:zR w A' ys)(hl:zs.length<=9223372036854775807)(hr:∀ k,k<zs.length->(zs.getD k []).length<=9223372036854775807):
 zC 76 #[zL A zs.length c,zL A' ys.length c',.func (.func 77) #[] #[]] w (Quiet (.bool (decide (zs=ys))) w):=by
 have M:=zH hA;have x:=zH aa;have N:=zH hr;clear hA aa hr;by_cases g:zs.length=ys.length
 . have C : zK (∀ k,k < zs.length -> zs.getD k [] ≠ ys.getD k [] -> decide (zs = ys) = false) := fun k I h => decide_eq_false (fun e => h (by rw [e]));have p:zK (zs.take zs.length=ys.take zs.length->decide (zs=ys)=true):=fun h=>decide_eq_true (by rw [List.take_length,g,List.take_length] at h;exact h);have H:zK (∀ k,k<zs.length->zs.take k=ys.take k->zs.getD k []=ys.getD k []->zs.take (k+1)=ys.take (k+1)):=fun k I h he=>qcQ [] I U0 h he;have J:((zs.length:Int) != (ys.length:Int))=false:=so;have Q:ys.length<=zs.length:=U0;have L:zs.length<=ys.length:=U0;clear g;go_enter func76,ntmps76;go_wp2;go_loopw [17] (fun v17 wr=>RelEq zs ys w v17 wr) (fun v17 _=>zs.length-(intOf v17).toNat);case atStart=>exact ⟨0,0,U0,rfl,U2,rfl⟩
   case round =>
    obtain⟨k,n,I,rfl,s,rfl⟩:=hrel;have q:=zH s;clear s;by_cases j:k<zs.length
    . obtain ⟨b,o,t,v,rfl,V,W,K⟩ := M.o.at_ j;obtain ⟨U,o',d,f,rfl,O,P,r⟩:=x.o.at_ (i:=k) U0;have z:=zH (C.o k j);have D:=zH (H.o k j q.o)
      have u:zK (zC 77 #[zL t (zs.getD k []).length v,zL d (ys.getD k []).length f] (w.drewN n) (Quiet (.bool (decide (zs.getD k []=ys.getD k []))) (w.drewN n))):=
       sequal_c (zs.getD k []) (ys.getD k []) t d v f (w.drewN n) (K.keep (qaB zV n)) (r.keep (qaB zV n)) (N.o k j)
      clear K r;have X:(0:Int)<=(k:Int):=U0;have Z:(k:Int)<(zs.length:Int):=U0;have k2:(k:Int)<(ys.length:Int):=U0;by_cases m:zs.getD k []=ys.getD k []
      . have E:=zH (D.o m);(have l:zK (zC 77 #[zL t (zs.getD k []).length v,zL d (ys.getD k []).length f] (w.drewN n) (Quiet (.bool true) (w.drewN n))):=by have:=u.o;rw[decide_eq_true m] at this;exact this);clear m u z D;generalize (zs.getD k []).length=R at *;generalize (ys.getD k []).length=S at *;go_wp2_with fail;go_fit l.o;rintro e T ⟨rfl,n3,rfl⟩;go_wp2;go_roundw;case rel=>exact⟨k+1,n+n3,U0,U3,E.o,df⟩
        case measure=>simp[intOf];omega
      . have B:=zH (z.o m);(have l:zK (zC 77 #[zL t (zs.getD k []).length v,zL d (ys.getD k []).length f] (w.drewN n) (Quiet (.bool false) (w.drewN n))):=by have:=u.o;rw[decide_eq_false m] at this;exact this);clear m u z D;generalize (zs.getD k []).length=R at *;generalize (ys.getD k []).length=S at *;go_wp2_with fail;go_fit l.o;rintro e T ⟨rfl,n3,rfl⟩;go_wp2;go_ret;exact⟨qaN B.o.symm,n+n3,df⟩
    . (obtain rfl:k=zs.length:=by omega);have y:=zH (p.o q.o);go_wp2;go_ret;exact⟨qaN y.o.symm,n,rfl⟩
 . (have J:((zs.length:Int) != (ys.length:Int))=true:=by simp;omega);have y:zK (decide (zs=ys)=false):=decide_eq_false (fun e=>g (by rw[e]));clear g;go_enter func76,ntmps76;go_wp2;go_ret;exact⟨qaN y.o.symm,0,rfl⟩
end Go.Proofs.YtflejelbdlelpaaGreat
namespace Go.Proofs.YtflejelbdlelpaaGreat
open Go.RowKit Pln
theorem chkP_mem{t:List (Nat × Nat)}(h:chkP t=true){p:Nat}(d:(t.map Prod.fst).elem p=true):∃x,okP p x=true:=by have c:=List.elem_iff.1 d;obtain⟨e,b,rfl⟩:=List.mem_map.1 c;exact⟨e.2,List.all_eq_true.1 h e b⟩
theorem gen_prime{p:Nat}(d:p<=256)(c:primeP p=true):genM (mulM p 1 [0]) p≠[]:=by have h:=List.all_eq_true.1 primes_are p (List.mem_range.2 U0);unfold primeP at c;rw[c,Bool.not_true,Bool.false_or] at h;obtain⟨x,b⟩:=chkP_mem ok_primes h;exact okP_spec d b
theorem small_primes:∀p,p<17->primeP p=true->p=2\/p=3\/p=5\/p=7\/p=11\/p=13:=dk
theorem pow_gt{p k m b:Nat}(c:2<=p)(d:b<p^k)(h:p^m<=b):m<k:=by
 rcases Nat.lt_or_ge m k with h1|h1
 . exact h1
 . have:=qbZ c h1;omega
theorem gen_irr_all{p m:Nat}(r:Small p m)(n:primeP p=true)(o:2<=m){md:LN}(l:Dig p m md):(genM (mulM p m md) (p ^ m)≠[]) ↔ irrM p md=true:=by
 obtain⟨f,j,g,i,q⟩:=r;have c:p<17:=by
  have d:=qbZ (p:=p) f o;rcases Nat.lt_or_ge p 17 with h|h
  . exact h
  . have:=Nat.mul_le_mul h h;rw[Nat.pow_two] at d;omega
 rcases small_primes p c n with rfl|rfl|rfl|rfl|rfl|rfl
 . rcases(by omega : m = 2\/m = 3\/m = 4\/m = 5\/m = 6\/m = 7\/m = 8) with rfl|rfl|rfl|rfl|rfl|rfl|rfl
   . exact qbS dc dc dc dk ok_2_2 l
   . exact qbS dc dc dc dk ok_2_3 l
   . exact qbS dc dc dc dk ok_2_4 l
   . exact qbS dc dc dc dk ok_2_5 l
   . exact qbS dc dc dc dk ok_2_6 l
   . exact qbS dc dc dc dk ok_2_7 l
   . exact qbS dc dc dc dk ok_2_8 l
 . have:=pow_gt (p:=3) (k:=6) (m:=m) (b:=256) dc dc q;rcases(by omega:m=2\/m=3\/m=4\/m=5) with rfl|rfl|rfl|rfl
   . exact qbS dc dc dc dk ok_3_2 l
   . exact qbS dc dc dc dk ok_3_3 l
   . exact qbS dc dc dc dk ok_3_4 l
   . exact qbS dc dc dc dk ok_3_5 l
 . have:=pow_gt (p:=5) (k:=4) (m:=m) (b:=256) dc dc q;rcases(by omega:m=2\/m=3) with rfl|rfl
   . exact qbS dc dc dc dk ok_5_2 l
   . exact qbS dc dc dc dk ok_5_3 l
 . have:=pow_gt (p:=7) (k:=3) (m:=m) (b:=256) dc dc q;obtain rfl:m=2:=U0;exact qbS dc dc dc dk ok_7_2 l
 . have:=pow_gt (p:=11) (k:=3) (m:=m) (b:=256) dc dc q;obtain rfl:m=2:=U0;exact qbS dc dc dc dk ok_11_2 l
 . have:=pow_gt (p:=13) (k:=3) (m:=m) (b:=256) dc dc q;obtain rfl:m=2:=U0;exact qbS dc dc dc dk ok_13_2 l
theorem not_nil{α:Type}{l:List α}(h:l≠[]):(!l.isEmpty)=true:=by
 cases l with
 |nil=>exact absurd rfl h
 |cons=>rfl
theorem qdY(p m:Int)(mod:LI):fieldOK p m mod=(shapeM p m mod && (decide (m=1) || irrM p.toNat (mod.map Int.toNat))):=by
 unfold fieldOK;cases hsh:shapeM p m mod
 . simp
 . have b := qeQ hsh;rw [Bool.true_and,Bool.true_and];by_cases g:m=1
   . subst g;(have j:mdOf 1 mod=[0]:=by simp[mdOf]);have k:(1:Int).toNat=1:=rfl;rw[j,k,Nat.pow_one,not_nil (gen_prime b.small.p2 b.prime)];simp
   . (have d : mdOf m mod = mod.map Int.toNat:=by simp[mdOf,g]);have c:Dig p.toNat m.toNat (mdOf m mod):=⟨by rw[d,List.length_map,b.len g],b.lt⟩;(have i:2<=m.toNat:=by have j:=b.small.m1;have k:=b.m0;omega);have h:=gen_irr_all b.small b.prime i c;rw[<- d,decide_eq_false g,Bool.false_or];by_cases f:irrM p.toNat (mdOf m mod)=true
     . rw[f,not_nil (h.2 f)]
     . have l:=Classical.byContradiction fun h'=>f (h.1 h');rw[l,(Bool.not_eq_true _).mp f];rfl
def refMul(p m:Nat)(md:LN)(x y:Nat):Nat:=val p (refMulL p m md (digs p m x) (digs p m y))
def refOps(p m:Nat)(md:LN):Ops:=⟨addD p m,refMul p m md,negD p m,refInv (refMul p m md) (p^m)⟩
theorem refMul_eq{p m:Nat}(d:0<p)(c:0<m){md:LN}(b:md.length=m):refMul p m md=mulM p m md:=by funext x y;unfold refMul mulM;rw[refMulL_eq d c md _ _ b (qaK p m x) (qaK p m y)]
theorem ops_eq{p m:Nat}{md l:LN}(h:FT p m md l)(b:md.length=m):OpsEq (p^m) (opsT p m l) (refOps p m md) where
 add x y _ _:=⟨rfl,qdR (by have:=h.small.p1;omega) m x y⟩
 mul x y hx hy:=⟨by
  show mulT l (logL l (p^m)) (p^m) x y=refMul p m md x y
  rw[refMul_eq (by have:=h.small.p1;omega) h.small.m1 b]
  exact h.tab.mul_eq (qaV (by have:=h.small.p1;omega) h.small.m1 md) hx hy,mulT_lt h hx hy⟩
 neg x _:=⟨rfl,qdP (by have:=h.small.p1;omega) m x⟩
 inv x hx h0:=⟨by
  show invT l (logL l (p^m)) (p^m) x=refInv (refMul p m md) (p^m) x
  rw[refMul_eq (by have:=h.small.p1;omega) h.small.m1 b]
  exact(refInv_eq (qaV (by have:=h.small.p1;omega) h.small.m1 md) h.tab h0 hx).symm,(h.tab.inv (qaV (by have:=h.small.p1;omega) h.small.m1 md) h0 hx).2.1⟩
end Go.Proofs.YtflejelbdlelpaaGreat
namespace Go.Proofs.YtflejelbdlelpaaGreat
namespace Dv
def wt:LN->Nat
 |[]=>0
 |x :: r=>(if x=0 then 0 else 1)+wt r
def addTo(q:Nat):LN->Nat->LN->LN
 |o :: u,a,y :: v=>(o+a*y % q) % q :: addTo q u a v
 |_,_,_=>[]
def comb(q:Nat):LN->LN->LL->LN
 |out,x :: xs,r :: rs=>comb q (if x=0 then out else addTo q out x r) xs rs
 |out,_,_=>out
def Ok(q n:Nat)(v:LN):Prop:=v.length=n/\∀x∈v,x<q
theorem zeros_ok{q n:Nat}(b:0<q):Ok q n (List.replicate n 0):=⟨U2,fun x hx=>by simp at hx;omega⟩
theorem wt_zeros:∀ n:Nat,wt (List.replicate n 0)=0
 |0=>rfl
 |n + 1=>by
   rw[List.replicate_succ]
   unfold wt
   rw[wt_zeros n]
   rfl
end Dv
namespace Dv
def digsBE(q:Nat):Nat->Nat->LN
 |0,_=>[]
 |k+1,n=>digsBE q k (n / q)++[n % q]
theorem digsBE_len(q:Nat):∀k n,(digsBE q k n).length=k
 |0,_=>rfl
 |k+1,n=>by unfold digsBE;rw[List.length_append,digsBE_len q k];rfl
theorem digsBE_lt{q:Nat}(b:0<q):∀ k n,∀ x∈digsBE q k n,x<q
 |0,_,x,h=>by simp[digsBE] at h
 | k + 1,n,x,h => by
   unfold digsBE at h
   rcases List.mem_append.1 h with h|h
   . exact digsBE_lt b k _ x h
   . simp at h
     rw[h]
     exact Nat.mod_lt _ b
theorem index_of{q:Nat}(l:0<q):∀ (k:Nat)(msg:LN),msg.length=k->(∀ x∈msg,x<q)->∃ n,n<q ^ k/\digsBE q k n=msg/\(n=0->∀ x∈msg,x=0)
 |0,msg,h,_=>by
   rw[List.length_eq_zero_iff.1 h]
   exact⟨0,U2,rfl,fun _ x hx=>by simp at hx⟩
 | k + 1,msg,h,hm => by
   have hne:msg≠[]:=fun e=>by rw[e] at h;simp at h
   have f:=List.dropLast_concat_getLast hne
   have d:msg.getLast hne<q:=hm _ (List.getLast_mem hne)
   obtain⟨n,g,i,j⟩:=index_of l k msg.dropLast (by simp[h]) (fun x hx=>hm x (List.dropLast_subset _ hx))
   refine⟨q*n+msg.getLast hne,?_,?_,fun h0 x hx=>?_⟩
   . rw [Nat.pow_succ,Nat.mul_comm (q ^ k)]
     calc q*n+msg.getLast hne<q*n+q:=by omega
      _=q*(n+1):=by rw[Nat.mul_add,Nat.mul_one]
      _<=q*q^k:=Nat.mul_le_mul_left _ g
   . unfold digsBE
     rw[Nat.mul_add_div l,Nat.div_eq_of_lt d,Nat.add_zero,Nat.mul_add_mod,Nat.mod_eq_of_lt d,i]
     exact f
   . have b : msg.getLast hne = 0 := by omega
     have c:n=0:=by
      rcases Nat.eq_zero_or_pos n with h|h
      . exact h
      . have:=Nat.mul_pos l h
        omega
     rw[<- f] at hx
     rcases List.mem_append.1 hx with hx|hx
     . exact j c x hx
     . simp at hx
       rw[hx,b]
def leastGo(f:Nat->Nat):Nat->Nat->Nat->Nat
 |0,_,out=>out
 |g+1,i,out=>leastGo f g (i+1) (min out (f i))
theorem leastGo_le(f:Nat->Nat):∀g i out,leastGo f g i out<=out
 |0,_,_=>Nat.le_refl _
 |g+1,i,_=>Nat.le_trans (leastGo_le f g (i+1) _) (Nat.min_le_left _ _)
theorem leastGo_at(f:Nat->Nat):∀ g i out j,i<=j->j<i+g->leastGo f g i out<=f j
 |0,i,out,j,h1,h2=>by omega
 | g + 1,i,out,j,h1,h2 => by
   unfold leastGo
   by_cases h:i=j
   . subst h
     exact Nat.le_trans (leastGo_le f g _ _) (Nat.min_le_right _ _)
   . exact leastGo_at f g (i+1) _ j U0 U0
end Dv
end Go.Proofs.YtflejelbdlelpaaGreat
namespace Go.Proofs.YtflejelbdlelpaaGreat
open Pln
namespace Dv
structure Ar (p:Nat) (O:Ops):Prop where
 pos:0<p
 add:∀x y,x<p->y<p->O.add x y=(x+y) % p
 mul:∀x y,x<p->y<p->O.mul x y=x*y % p
def combO(O:Ops):LN->LN->LL->LN
 |out,x :: xs,r :: rs=>combO O (if x=0 then out else addRow O out x r) xs rs
 |out,_,_=>out
def dotO(O:Ops):Nat->LN->LN->Nat
 |s,x :: r,y :: t=>dotO O (O.add s (O.mul x y)) r t
 |s,_,_=>s
end Dv
end Go.Proofs.YtflejelbdlelpaaGreat
