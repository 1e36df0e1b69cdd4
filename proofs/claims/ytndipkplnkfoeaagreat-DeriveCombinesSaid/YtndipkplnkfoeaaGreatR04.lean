/- Parts of the proof. -/
import Derived.Test.YtndipkplnkfoeaaGreatR02
set_option maxRecDepth 100000
set_option maxHeartbeats 8000000
namespace Go.Proofs.YtndipkplnkfoeaaGreat
open Go.RowKit Pln
def elemsB(q:Nat)(zs:List Int):Bool:=zs.all (inB q)
def errE(b:Bool):Int:=if b=true then 0 else 2
theorem entries_c(H p m B:Nat)(l K:List Nat)(zs:List Int)(A:Option Addr)(c:Nat)(w:World)(J:GFAt w B H p m l K)(I:IntsAt w w.heap.size A zs)(L:zs.length<=9223372036854775807):
 zC 197 #[zP H,zL A zs.length c] w fun e w'=>e=.returned (Y (errE (elemsB (p^m) zs)))/\w=w':=by
 have v:=zH I;have u:Hid (∀x:Int,zC 196 (Db H x) w fun e w'=>e=.returned (.bool (inB ((p^m:Nat):Int) x))/\w=w'):=fun x=>is_c x H p m B l K w J;clear I J;generalize p^m=q at *;go_enter Tryz.func197,Tryz.ntmps197;go_wp2_with fail;go_loop [9] (fun v9=>∃k:Nat,k<=zs.length/\v9=Y k/\(zs.take k).all (inB q)=true) (fun v9=>zs.length-(intOf v9).toNat);case atStart=>exact⟨0,U0,rfl,U2⟩
 case round =>
  obtain⟨k,E,rfl,g⟩:=hrel;have f:=zH g;clear g;by_cases d:k<zs.length
  . obtain ⟨b,o,rfl,C,D⟩ := v.out.at_ d;(have t:Hid ((zs.take (k+1)).all (inB q)=((zs.take k).all (inB q) && inB q (zs.getD k 0))):=by show _=_;rw [List.take_succ_eq_append_getElem d,List.all_append];simp [List.getD,d]);(have n:Hid (inB q (zs.getD k 0)=false->elemsB q zs=false):=fun h=>by unfold elemsB;rw [List.all_eq_false];exact ⟨zs.getD k 0,by rw [List.getD_eq_getElem?_getD,List.getElem?_eq_getElem d];exact List.getElem_mem d,by rw [h];simp⟩);generalize zs.getD k 0=z at *;by_cases r:inB q z=true
    . (have i : Hid (zC 196 (Db H z) w fun e w'=>e = .returned (.bool true)/\w = w'):=by have:=u.out z;rw[r] at this;exact this);have y:=zH r;clear r;go_wp2_with (go_at_call 196;(with_reducible refine i.out.mono ?_);rintro e w' ⟨rfl,rfl⟩);go_round;case rel=>exact⟨k+1,U0,gn,by rw[t.out,f.out,y.out];rfl⟩
      case measure=>exact mE
    . (have j:inB q z=false:=by simpa using r);(have i:Hid (zC 196 (Db H z) w fun e w'=>e=.returned (.bool false)/\w=w'):=by have:=u.out z;rw[j] at this;exact this);(have s:Hid (errE (elemsB q zs)=2):=by show _=_;rw[n.out j];rfl);clear r j;go_wp2_with (go_at_call 196;(with_reducible refine i.out.mono ?_);rintro e w' ⟨rfl,rfl⟩);go_ret;exact⟨qaG s.out.symm,rfl⟩
  . (have s:Hid (errE (elemsB q zs)=0):=by show _=_;have:=f.out;rw[List.take_of_length_le U0] at this;unfold elemsB;rw[this];rfl);go_wp2_with fail;go_ret;exact⟨qaG s.out.symm,rfl⟩
def checkZ(q:Nat)(cols:Int)(zs:List (List Int)):Int:=
 if cols<0\/256<cols\/256<zs.length then 3 else if zs.all (fun r=>decide ((r.length:Int)=cols))=false then 3 else if zs.all (elemsB q)=false then 2 else 0
theorem qeC{q:Nat}{b:Int}{zs:List (List Int)}(h:b<0\/256<b\/256<zs.length):checkZ q b zs=3:=by unfold checkZ;rw[if_pos h]
theorem check_big(k:Nat)(q:Nat)(j:Int)(zs:List (List Int))(A:Option Addr)(c:Nat)(w:World)(l:zs.length<=9223372036854775807)(h:j<0\/256<j\/256<zs.length):
 zC 230 #[zP k,Cy j A zs.length c] w fun e w'=>e=.returned (Y (checkZ q j zs))/\Below w.heap.size w w':=by
 have d:=zH (qeC (q:=q) h);have b:Hid (Below w.heap.size w (w.alloc (Cp j A zs.length c))):=(Below.refl _ _).alloc (Nat.le_refl _) _;by_cases f:j<0
 . go_enter Tryz.func230,Tryz.ntmps230;go_wp2_with fail;go_ret;exact⟨qaG d.out.symm,b.out⟩
 . by_cases g : 256 < j
   . go_enter Tryz.func230,Tryz.ntmps230;go_wp2_with fail;go_ret;exact⟨qaG d.out.symm,b.out⟩
   . (have i:256<zs.length:=by omega);clear h;go_enter Tryz.func230,Tryz.ntmps230;go_wp2_with fail;go_ret;exact⟨qaG d.out.symm,b.out⟩
theorem qbN{α:Type}(f:α->Bool)(l:List α)(d:α)(k:Nat)(b:k<l.length):(l.take (k+1)).all f=((l.take k).all f && f (l.getD k d)):=by rw[List.take_succ_eq_append_getElem b,List.all_append];simp[List.getD,b]
theorem qbL{α:Type}(f:α->Bool)(l:List α)(d:α)(k:Nat)(b:k<l.length)(h:f (l.getD k d)=false):l.all f=false:=by rw[List.all_eq_false];exact⟨l.getD k d,by rw[List.getD_eq_getElem?_getD,List.getElem?_eq_getElem b];exact List.getElem_mem b,by rw[h];simp⟩
theorem all_at{α:Type}(f:α->Bool)(l:List α)(d:α)(k:Nat)(b:k<l.length)(h:l.all f=true):f (l.getD k d)=true:=by
 cases hf:f (l.getD k d)
 . rw[qbL f l d k b hf] at h;cases h
 . rfl
theorem check_c(gb p m B:Nat)(l lg:List Nat)(aa:Int)(zs:List (List Int))(A:Option Addr)(c:Nat)(w:World)(hG:GFAt w B gb p m l lg)(hB:B<=w.heap.size)(hA:RowsAt w w.heap.size A zs)(hl:zs.length<=9223372036854775807):
 zC 230 #[zP gb,Cy aa A zs.length c] w fun e w'=>e=.returned (Y (checkZ (p^m) aa zs))/\Below w.heap.size w w':=by
 by_cases i:aa<0\/256<aa\/256<zs.length
 . exact check_big gb (p^m) aa zs A c w hl i
 . (have J : Hid (zs.all (fun r => decide ((r.length : Int) = aa)) = false -> checkZ (p ^ m) aa zs = 3) := fun h => by unfold checkZ;rw [if_neg i,if_pos h]);(have M:Hid (zs.all (fun r=>decide ((r.length:Int)=aa))=true->zs.all (elemsB (p ^ m))=false->checkZ (p ^ m) aa zs=2):=fun h h'=>by unfold checkZ;rw [if_neg i,if_neg (by simp [h]),if_pos h']);(have N:Hid (zs.all (fun r=>decide ((r.length:Int)=aa))=true->zs.all (elemsB (p ^ m))=true->checkZ (p ^ m) aa zs=0):=fun h h'=>by unfold checkZ;rw [if_neg i,if_neg (by simp [h]),if_neg (by simp [h'])]);have S:¬ aa<0:=U0;have T:¬ 256<aa:=U0;have U:¬ 256<(zs.length:Int):=U0;have s:Hid (Below w.heap.size w (w.alloc (Cp aa A zs.length c))):=(Below.refl _ _).alloc (Nat.le_refl _) _;have I:Hid ((w.alloc (Cp aa A zs.length c)).heap[w.heap.size]?=some (Cp aa A zs.length c)):=heap_alloc_new _ _;have Q:=zH ((hA.keep s.out).more (B':=(w.alloc (Cp aa A zs.length c)).heap.size) U2);have L:=zH (hG.keep (s.out.mono hB));clear hA hG i;go_enter Tryz.func230,Tryz.ntmps230;go_wp2_with fail;generalize w.alloc (Cp aa A zs.length c)=v at *;have X:v.cell? (zA w.heap.size 0)=some (Y aa):=cell_of_row _ _ 0 _ _ _ I.out;have Z:v.cell? (zA w.heap.size 1)=some (zL A zs.length c):=cell_of_row _ _ 1 _ _ _ I.out;go_loop [27] (fun v27=>∃ k:Nat,k<=zs.length/\v27=Y k/\(zs.take k).all (fun r=>decide ((r.length:Int)=aa))=true) (fun v27=>zs.length-(intOf v27).toNat);case atStart=>exact ⟨0,U0,rfl,U2⟩
   case round =>
    obtain⟨k,W,rfl,g⟩:=hrel;have d:=zH g;clear g;by_cases j:k<zs.length
    . obtain ⟨b,o,x,z,rfl,R,V,K⟩ := Q.out.at_ j;have u:=zH (qbN (fun r:List Int=>decide ((r.length:Int)=aa)) zs [] k j);have t:=zH (qbL (fun r:List Int=>decide ((r.length:Int)=aa)) zs [] k j);clear K;generalize (zs.getD k []).length=n at *;by_cases q:(n:Int)=aa
      . (have O : ((n : Int) != aa) = false:=by simp[q]);(have y:Hid ((zs.take (k+1)).all (fun r=>decide ((r.length:Int)=aa))=true):=by show _=_;rw[u.out,d.out,q];simp);clear q;go_wp2_with fail;go_round;case rel=>exact⟨k+1,U0,gn,y.out⟩
        case measure=>exact mE
      . (have O:((n:Int) != aa)=true:=by simp[q]);have y:Hid (checkZ (p^m) aa zs=3):=J.out (t.out (by simp[q]));clear q;go_wp2_with fail;go_ret;exact⟨qaG y.out.symm,s.out⟩
    . (obtain rfl : k = zs.length := by omega);(have f:Hid (zs.all (fun r=>decide ((r.length:Int)=aa))=true):=by have:=d.out;rw [List.take_length] at this;exact this)
      have D:Hid (∀(r:List Int)(x:Option Addr)(z:Nat),IntsAt v v.heap.size x r->r.length<=9223372036854775807->zC 197 #[zP gb,zL x r.length z] v fun e w'=>e=.returned (Y (errE (elemsB (p^m) r)))/\v=w'):=
       fun r x z h1 h2=>entries_c gb p m B l lg r x z v L.out h1 h2
      clear d J;go_wp2_with fail;go_loop [40] (fun v40=>∃k:Nat,k<=zs.length/\v40=Y k/\(zs.take k).all (elemsB (p^m))=true) (fun v40=>zs.length-(intOf v40).toNat);case atStart=>exact⟨0,U0,rfl,U2⟩
      case round =>
       obtain⟨k,W,rfl,g⟩:=hrel;have d:=zH g;clear g;by_cases j:k<zs.length
       . obtain ⟨b,o,x,z,rfl,R,V,K⟩ := Q.out.at_ j;have u:=zH (qbN (elemsB (p ^ m)) zs [] k j);have t:=zH (qbL (elemsB (p ^ m)) zs [] k j);(have P:((zs.getD k []).length:Int)=aa:=by simpa using all_at _ zs [] k j f.out);have H:=zH (D.out (zs.getD k []) x z K U0);clear K P;generalize zs.getD k []=r at *;by_cases q:elemsB (p ^ m) r=true
         . rw[q] at H;have C:Hid (zC 197 #[zP gb,zL x r.length z] v fun e w'=>e=.returned (Y 0)/\v=w'):=H.out;(have y:Hid ((zs.take (k+1)).all (elemsB (p^m))=true):=by show _=_;rw[u.out,d.out,q];rfl);clear q H u t f D;go_wp2_with (go_at_call 197;(with_reducible refine C.out.mono ?_);rintro e w' ⟨rfl,rfl⟩);go_round;case rel=>exact⟨k+1,U0,gn,y.out⟩
           case measure=>exact mE
         . (have E:elemsB (p^m) r=false:=by simpa using q);rw[E] at H;have C:Hid (zC 197 #[zP gb,zL x r.length z] v fun e w'=>e=.returned (Y 2)/\v=w'):=H.out;have y:Hid (checkZ (p^m) aa zs=2):=M.out f.out (t.out E);clear q E H u t f D;go_wp2_with (go_at_call 197;(with_reducible refine C.out.mono ?_);rintro e w' ⟨rfl,rfl⟩);go_ret;exact⟨qaG y.out.symm,s.out⟩
       . have y:Hid (checkZ (p^m) aa zs=0):=N.out f.out (by have:=d.out;rw[List.take_of_length_le U0] at this;exact this);go_wp2_with fail;go_ret;exact⟨qaG y.out.symm,s.out⟩
theorem qcQ{α:Type}{l f:List α}(d:α){k:Nat}(i:k<l.length)(g:k<f.length)(h:l.take k=f.take k)(j:l.getD k d=f.getD k d):l.take (k+1)=f.take (k+1):=by
 rw[List.take_succ_eq_append_getElem i,List.take_succ_eq_append_getElem g,h];have b:l.getD k d=l[k]:=by simp[List.getD,i]
 have c:f.getD k d=f[k]:=by simp[List.getD,g]
 rw[<- b,<- c,j]
def RelEq{α:Type}(l l':List α)(w:World)(v:Value)(wr:World):Prop:=∃k n:Nat,k<=l.length/\v=Y k/\l.take k=l'.take k/\wr=w.drewN n
theorem sequal_c(zs R:List Int)(A T:Option Addr)(c V:Nat)(w:World)(U:IntsAt w w.heap.size A zs)(S:IntsAt w w.heap.size T R)(W:zs.length<=9223372036854775807):
 zC 83 #[zL A zs.length c,zL T R.length V] w (Quiet (.bool (decide (zs=R))) w):=by
 have C:=zH U;have m:=zH S;clear U S;by_cases d:zs.length=R.length
 . have r : Hid (∀ k,k < zs.length -> zs.getD k 0 ≠ R.getD k 0 -> decide (zs = R) = false) := fun k u h => decide_eq_false (fun e => h (by rw [e]));have i:Hid (zs.take zs.length=R.take zs.length->decide (zs=R)=true):=fun h=>decide_eq_true (by rw [List.take_length,d,List.take_length] at h;exact h);have t:Hid (∀ k,k<zs.length->zs.take k=R.take k->zs.getD k 0=R.getD k 0->zs.take (k+1)=R.take (k+1)):=fun k u h he=>qcQ 0 u U0 h he;have v:((zs.length:Int) != (R.length:Int))=false:=so;have J:R.length<=zs.length:=U0;have B:zs.length<=R.length:=U0;clear d;go_enter Tryz.func83,Tryz.ntmps83;go_wp2_with fail;go_loopw [13] (fun v13 wr=>RelEq zs R w v13 wr) (fun v13 _=>zs.length-(intOf v13).toNat);case atStart=>exact ⟨0,0,U0,rfl,U2,rfl⟩
   case round =>
    obtain⟨k,n,u,rfl,l,rfl⟩:=hrel;have j:=zH l;clear l;by_cases f:k<zs.length
    . obtain ⟨b,o,rfl,L,M⟩ := C.out.at_ f;obtain ⟨K,Q,rfl,H,I⟩:=m.out.at_ (k:=k) U0;have D:=zH (r.out k f);have E:=zH (t.out k f j.out);generalize zs.getD k 0=z at *;generalize R.getD k 0=y at *;have N:(0:Int)<=(k:Int):=U0;have O:(k:Int)<(zs.length:Int):=U0;have P:(k:Int)<(R.length:Int):=U0;by_cases g:z=y
      . (have x : (z != y) = false:=by simp[g]);have s:=zH (E.out g);clear g;go_upto_region 6 with fail;go_quiet (fail);go_wp2_with fail;go_roundw;case rel=>exact⟨k+1,n+nq,U0,gn,s.out,rfl⟩
        case measure=>exact mE
      . (have x:(z != y)=true:=by simp[g]);have q:=zH (D.out g);clear g;go_upto_region 6 with fail;go_quiet (fail);go_wp2_with fail;go_ret;exact⟨qaN q.out.symm,n+nq,df⟩
    . (obtain rfl:k=zs.length:=by omega);have p:=zH (i.out j.out);go_wp2_with fail;go_ret;exact⟨qaN p.out.symm,n,rfl⟩
 . (have v:((zs.length:Int) != (R.length:Int))=true:=by simp;omega);have p:Hid (decide (zs=R)=false):=decide_eq_false (fun e=>d (by rw[e]));clear d;go_enter Tryz.func83,Tryz.ntmps83;go_wp2_with fail;go_ret;exact⟨qaN p.out.symm,0,rfl⟩
theorem sequalf_c(zs ys:List (List Int))(A A':Option Addr)(c c':Nat)(w:World)(hA:RowsAt w w.heap.size A zs)(aa:RowsAt w w.heap.size A' ys)(hl:zs.length<=9223372036854775807)(hr:∀ k,k<zs.length->(zs.getD k []).length<=9223372036854775807):
 zC 82 #[zL A zs.length c,zL A' ys.length c',.func (.func 83) #[] #[]] w (Quiet (.bool (decide (zs=ys))) w):=by
 have M:=zH hA;have x:=zH aa;have N:=zH hr;clear hA aa hr;by_cases g:zs.length=ys.length
 . have C : Hid (∀ k,k < zs.length -> zs.getD k [] ≠ ys.getD k [] -> decide (zs = ys) = false) := fun k I h => decide_eq_false (fun e => h (by rw [e]));have p:Hid (zs.take zs.length=ys.take zs.length->decide (zs=ys)=true):=fun h=>decide_eq_true (by rw [List.take_length,g,List.take_length] at h;exact h);have H:Hid (∀ k,k<zs.length->zs.take k=ys.take k->zs.getD k []=ys.getD k []->zs.take (k+1)=ys.take (k+1)):=fun k I h he=>qcQ [] I U0 h he;have J:((zs.length:Int) != (ys.length:Int))=false:=so;have Q:ys.length<=zs.length:=U0;have L:zs.length<=ys.length:=U0;clear g;go_enter Tryz.func82,Tryz.ntmps82;go_wp2_with fail;go_loopw [17] (fun v17 wr=>RelEq zs ys w v17 wr) (fun v17 _=>zs.length-(intOf v17).toNat);case atStart=>exact ⟨0,0,U0,rfl,U2,rfl⟩
   case round =>
    obtain⟨k,n,I,rfl,s,rfl⟩:=hrel;have q:=zH s;clear s;by_cases j:k<zs.length
    . obtain ⟨b,o,t,v,rfl,V,W,K⟩ := M.out.at_ j;obtain ⟨U,o',d,f,rfl,O,P,r⟩:=x.out.at_ (i:=k) U0;have z:=zH (C.out k j);have D:=zH (H.out k j q.out)
      have u:Hid (zC 83 #[zL t (zs.getD k []).length v,zL d (ys.getD k []).length f] (w.drewN n) (Quiet (.bool (decide (zs.getD k []=ys.getD k []))) (w.drewN n))):=
       sequal_c (zs.getD k []) (ys.getD k []) t d v f (w.drewN n) (K.keep (qaB (Below.refl _ _) n)) (r.keep (qaB (Below.refl _ _) n)) (N.out k j)
      clear K r;have X:(0:Int)<=(k:Int):=U0;have Z:(k:Int)<(zs.length:Int):=U0;have k2:(k:Int)<(ys.length:Int):=U0;by_cases m:zs.getD k []=ys.getD k []
      . have E:=zH (D.out m);(have l:Hid (zC 83 #[zL t (zs.getD k []).length v,zL d (ys.getD k []).length f] (w.drewN n) (Quiet (.bool true) (w.drewN n))):=by have:=u.out;rw[decide_eq_true m] at this;exact this);clear m u z D;generalize (zs.getD k []).length=R at *;generalize (ys.getD k []).length=S at *;go_wp2_with fail;(with_reducible refine l.out.mono ?_);rintro e T ⟨rfl,n3,rfl⟩;go_wp2_with fail;go_roundw;case rel=>exact⟨k+1,n+n3,U0,gn,E.out,df⟩
        case measure=>exact mE
      . have B:=zH (z.out m);(have l:Hid (zC 83 #[zL t (zs.getD k []).length v,zL d (ys.getD k []).length f] (w.drewN n) (Quiet (.bool false) (w.drewN n))):=by have:=u.out;rw[decide_eq_false m] at this;exact this);clear m u z D;generalize (zs.getD k []).length=R at *;generalize (ys.getD k []).length=S at *;go_wp2_with fail;(with_reducible refine l.out.mono ?_);rintro e T ⟨rfl,n3,rfl⟩;go_wp2_with fail;go_ret;exact⟨qaN B.out.symm,n+n3,df⟩
    . (obtain rfl:k=zs.length:=by omega);have y:=zH (p.out q.out);go_wp2_with fail;go_ret;exact⟨qaN y.out.symm,n,rfl⟩
 . (have J:((zs.length:Int) != (ys.length:Int))=true:=by simp;omega);have y:Hid (decide (zs=ys)=false):=decide_eq_false (fun e=>g (by rw[e]));clear g;go_enter Tryz.func82,Tryz.ntmps82;go_wp2_with fail;go_ret;exact⟨qaN y.out.symm,0,rfl⟩
theorem chkP_mem{t:List (Nat × Nat)}(h:chkP t=true){p:Nat}(d:(t.map Prod.fst).elem p=true):∃x,okP p x=true:=by have c:p∈t.map Prod.fst:=List.elem_iff.1 d;obtain⟨e,b,rfl⟩:=List.mem_map.1 c;exact⟨e.2,List.all_eq_true.1 h e b⟩
theorem gen_prime{p:Nat}(d:p<=256)(c:primeP p=true):genM (mulM p 1 [0]) p≠[]:=by have h:=List.all_eq_true.1 primes_are p (List.mem_range.2 U0);unfold primeP at c;rw[c,Bool.not_true,Bool.false_or] at h;obtain⟨x,b⟩:=chkP_mem ok_primes h;exact okP_spec d b
theorem small_primes:∀p,p<17->primeP p=true->p=2\/p=3\/p=5\/p=7\/p=11\/p=13:=dk
theorem pow_gt{p k m b:Nat}(c:2<=p)(d:b<p^k)(h:p^m<=b):m<k:=by
 rcases Nat.lt_or_ge m k with h1|h1
 . exact h1
 . have:=qbZ c h1;omega
theorem gen_irr_all{p m:Nat}(r:Small p m)(n:primeP p=true)(o:2<=m){md:List Nat}(l:Dig p m md):(genM (mulM p m md) (p ^ m)≠[]) ↔ irrM p md=true:=by
 obtain⟨f,j,g,i,q⟩:=r;have c:p<17:=by
  have d:=qbZ (p:=p) f o;rcases Nat.lt_or_ge p 17 with h|h
  . exact h
  . have:=Nat.mul_le_mul h h;rw[Nat.pow_two] at d;omega
 rcases small_primes p c n with rfl|rfl|rfl|rfl|rfl|rfl
 . rcases(by omega : m = 2\/m = 3\/m = 4\/m = 5\/m = 6\/m = 7\/m = 8) with rfl|rfl|rfl|rfl|rfl|rfl|rfl
   . exact qbS dc dc dc dk ok_2_2 l
   . exact qbS dc dc dc dk ok_2_3 l
   . exact qbS dc dc dc dk ok_2_4 l
   . exact qbS dc dc dc dk ok_2_5 l
   . exact qbS dc dc dc dk ok_2_6 l
   . exact qbS dc dc dc dk ok_2_7 l
   . exact qbS dc dc dc dk ok_2_8 l
 . have:=pow_gt (p:=3) (k:=6) (m:=m) (b:=256) dc dc q;rcases(by omega:m=2\/m=3\/m=4\/m=5) with rfl|rfl|rfl|rfl
   . exact qbS dc dc dc dk ok_3_2 l
   . exact qbS dc dc dc dk ok_3_3 l
   . exact qbS dc dc dc dk ok_3_4 l
   . exact qbS dc dc dc dk ok_3_5 l
 . have:=pow_gt (p:=5) (k:=4) (m:=m) (b:=256) dc dc q;rcases(by omega:m=2\/m=3) with rfl|rfl
   . exact qbS dc dc dc dk ok_5_2 l
   . exact qbS dc dc dc dk ok_5_3 l
 . have:=pow_gt (p:=7) (k:=3) (m:=m) (b:=256) dc dc q;obtain rfl:m=2:=U0;exact qbS dc dc dc dk ok_7_2 l
 . have:=pow_gt (p:=11) (k:=3) (m:=m) (b:=256) dc dc q;obtain rfl:m=2:=U0;exact qbS dc dc dc dk ok_11_2 l
 . have:=pow_gt (p:=13) (k:=3) (m:=m) (b:=256) dc dc q;obtain rfl:m=2:=U0;exact qbS dc dc dc dk ok_13_2 l
theorem not_nil{α:Type}{l:List α}(h:l≠[]):(!l.isEmpty)=true:=by
 cases l with
 |nil=>exact absurd rfl h
 |cons=>rfl
theorem qdY(p m:Int)(mod:List Int):fieldOK p m mod=(shapeM p m mod && (decide (m=1) || irrM p.toNat (mod.map Int.toNat))):=by
 unfold fieldOK;cases hsh:shapeM p m mod
 . simp
 . have b := shape_is hsh;rw [Bool.true_and,Bool.true_and];by_cases g:m=1
   . subst g;(have j:mdOf 1 mod=[0]:=by simp[mdOf]);have k:(1:Int).toNat=1:=rfl;rw[j,k,Nat.pow_one,not_nil (gen_prime b.small.p2 b.prime)];simp
   . (have d : mdOf m mod = mod.map Int.toNat:=by simp[mdOf,g]);have c:Dig p.toNat m.toNat (mdOf m mod):=⟨by rw[d,List.length_map,b.len g],b.lt⟩;(have i:2<=m.toNat:=by have j:=b.small.m1;have k:=b.m0;omega);have h:=gen_irr_all b.small b.prime i c;rw[<- d,decide_eq_false g,Bool.false_or];by_cases f:irrM p.toNat (mdOf m mod)=true
     . rw[f,not_nil (h.2 f)]
     . have l:genM (mulM p.toNat m.toNat (mdOf m mod)) (p.toNat^m.toNat)=[]:=Classical.byContradiction fun h'=>f (h.1 h');rw[l,(Bool.not_eq_true _).mp f];rfl
def refMul(p m:Nat)(md:List Nat)(x y:Nat):Nat:=val p (refMulL p m md (digs p m x) (digs p m y))
def refOps(p m:Nat)(md:List Nat):Ops:=⟨addD p m,refMul p m md,negD p m,refInv (refMul p m md) (p^m)⟩
theorem refMul_eq{p m:Nat}(d:0<p)(c:0<m){md:List Nat}(b:md.length=m):refMul p m md=mulM p m md:=by funext x y;unfold refMul mulM;rw[refMulL_eq d c md _ _ b (qaK p m x) (qaK p m y)]
theorem ops_eq{p m:Nat}{md l:List Nat}(h:FT p m md l)(b:md.length=m):OpsEq (p^m) (opsT p m l) (refOps p m md) where
 add x y _ _:=⟨rfl,qdR (by have:=h.small.p1;omega) m x y⟩
 mul x y hx hy:=⟨by
  show mulT l (logL l (p^m)) (p^m) x y=refMul p m md x y
  rw[refMul_eq (by have:=h.small.p1;omega) h.small.m1 b]
  exact h.tab.mul_eq (qaV (by have:=h.small.p1;omega) h.small.m1 md) hx hy,mulT_lt h hx hy⟩
 neg x _:=⟨rfl,qdP (by have:=h.small.p1;omega) m x⟩
 inv x hx h0:=⟨by
  show invT l (logL l (p^m)) (p^m) x=refInv (refMul p m md) (p^m) x
  rw[refMul_eq (by have:=h.small.p1;omega) h.small.m1 b]
  exact(refInv_eq (qaV (by have:=h.small.p1;omega) h.small.m1 md) h.tab h0 hx).symm,(h.tab.inv (qaV (by have:=h.small.p1;omega) h.small.m1 md) h0 hx).2.1⟩
end Go.Proofs.YtndipkplnkfoeaaGreat
namespace Go.Proofs.YtndipkplnkfoeaaGreat
namespace Dv
def wt:List Nat->Nat
 |[]=>0
 |x :: r=>(if x=0 then 0 else 1)+wt r
def addTo(q:Nat):List Nat->Nat->List Nat->List Nat
 |o :: u,a,y :: v=>(o+a*y % q) % q :: addTo q u a v
 |_,_,_=>[]
def comb(q:Nat):List Nat->List Nat->List (List Nat)->List Nat
 |out,x :: xs,r :: rs=>comb q (if x=0 then out else addTo q out x r) xs rs
 |out,_,_=>out
def Ok(q n:Nat)(v:List Nat):Prop:=v.length=n/\∀x∈v,x<q
theorem zeros_ok{q n:Nat}(b:0<q):Ok q n (List.replicate n 0):=⟨U2,fun x hx=>by simp at hx;omega⟩
theorem wt_zeros:∀ n:Nat,wt (List.replicate n 0)=0
 |0=>rfl
 |n + 1=>by
   rw[List.replicate_succ]
   unfold wt
   rw[wt_zeros n]
   rfl
end Dv
namespace Dv
def digsBE(q:Nat):Nat->Nat->List Nat
 |0,_=>[]
 |k+1,n=>digsBE q k (n / q)++[n % q]
theorem digsBE_len(q:Nat):∀k n,(digsBE q k n).length=k
 |0,_=>rfl
 |k+1,n=>by unfold digsBE;rw[List.length_append,digsBE_len q k];rfl
theorem digsBE_lt{q:Nat}(b:0<q):∀ k n,∀ x∈digsBE q k n,x<q
 |0,_,x,h=>by simp[digsBE] at h
 | k + 1,n,x,h => by
   unfold digsBE at h
   rcases List.mem_append.1 h with h|h
   . exact digsBE_lt b k _ x h
   . simp at h
     rw[h]
     exact Nat.mod_lt _ b
theorem index_of{q:Nat}(l:0<q):∀ (k:Nat) (msg:List Nat),msg.length=k->(∀ x∈msg,x<q)->∃ n,n<q ^ k/\digsBE q k n=msg/\(n=0->∀ x∈msg,x=0)
 |0,msg,h,_=>by
   rw[List.length_eq_zero_iff.1 h]
   exact⟨0,U2,rfl,fun _ x hx=>by simp at hx⟩
 | k + 1,msg,h,hm => by
   have hne:msg≠[]:=fun e=>by rw[e] at h;simp at h
   have f:=List.dropLast_concat_getLast hne
   have d:msg.getLast hne<q:=hm _ (List.getLast_mem hne)
   obtain⟨n,g,i,j⟩:=index_of l k msg.dropLast (by simp[h]) (fun x hx=>hm x (List.dropLast_subset _ hx))
   refine⟨q*n+msg.getLast hne,?_,?_,fun h0 x hx=>?_⟩
   . rw [Nat.pow_succ,Nat.mul_comm (q ^ k)]
     calc q*n+msg.getLast hne<q*n+q:=by omega
      _=q*(n+1):=by rw[Nat.mul_add,Nat.mul_one]
      _<=q*q^k:=Nat.mul_le_mul_left _ g
   . unfold digsBE
     rw[Nat.mul_add_div l,Nat.div_eq_of_lt d,Nat.add_zero,Nat.mul_add_mod,Nat.mod_eq_of_lt d,i]
     exact f
   . have b : msg.getLast hne = 0 := by omega
     have c:n=0:=by
      rcases Nat.eq_zero_or_pos n with h|h
      . exact h
      . have:=Nat.mul_pos l h
        omega
     rw[<- f] at hx
     rcases List.mem_append.1 hx with hx|hx
     . exact j c x hx
     . simp at hx
       rw[hx,b]
def leastGo(f:Nat->Nat):Nat->Nat->Nat->Nat
 |0,_,out=>out
 |g+1,i,out=>leastGo f g (i+1) (min out (f i))
theorem leastGo_le(f:Nat->Nat):∀g i out,leastGo f g i out<=out
 |0,_,_=>Nat.le_refl _
 |g+1,i,_=>Nat.le_trans (leastGo_le f g (i+1) _) (Nat.min_le_left _ _)
theorem leastGo_at(f:Nat->Nat):∀ g i out j,i<=j->j<i+g->leastGo f g i out<=f j
 |0,i,out,j,h1,h2=>by omega
 | g + 1,i,out,j,h1,h2 => by
   unfold leastGo
   by_cases h:i=j
   . subst h
     exact Nat.le_trans (leastGo_le f g _ _) (Nat.min_le_right _ _)
   . exact leastGo_at f g (i+1) _ j U0 U0
end Dv
end Go.Proofs.YtndipkplnkfoeaaGreat
namespace Go.Proofs.YtndipkplnkfoeaaGreat
open Pln
namespace Dv
structure Ar (p:Nat) (O:Ops):Prop where
 pos:0<p
 add:∀x y,x<p->y<p->O.add x y=(x+y) % p
 mul:∀x y,x<p->y<p->O.mul x y=x*y % p
def combO(O:Ops):List Nat->List Nat->List (List Nat)->List Nat
 |out,x :: xs,r :: rs=>combO O (if x=0 then out else addRow O out x r) xs rs
 |out,_,_=>out
def dotO(O:Ops):Nat->List Nat->List Nat->Nat
 |s,x :: r,y :: t=>dotO O (O.add s (O.mul x y)) r t
 |s,_,_=>s
end Dv
end Go.Proofs.YtndipkplnkfoeaaGreat
namespace Go.Proofs.YtndipkplnkfoeaaGreat
open Go.RowKit Pln
def RelDot(w:World)(q:Nat)(O:Ops)(u v:List Nat)(v7 v14:Value)(wr:World):Prop:=
 ∃k s n:Nat,k<=u.length/\v7=Y s/\v14=Y k/\s<q/\Dv.dotO O s (u.drop k) (v.drop k)=Dv.dotO O 0 u v/\wr=w.drewN n
theorem dotO_step{O:Ops}{u v:List Nat}{k s r:Nat}(d:k<u.length)(f:k<v.length)(h:Dv.dotO O s (u.drop k) (v.drop k)=r):Dv.dotO O (O.add s (O.mul (u.getD k 0) (v.getD k 0))) (u.drop (k+1)) (v.drop (k+1))=r:=by
 rw[List.drop_eq_getElem_cons d,List.drop_eq_getElem_cons f] at h;unfold Dv.dotO at h;have b:u.getD k 0=u[k]:=by simp[List.getD,d]
 have c:v.getD k 0=v[k]:=by simp[List.getD,f]
 rw[b,c];exact h
theorem dot_c(gb p m B:Nat)(md l u v:List Nat)(Au Av:Option Addr)(cu cv:Nat)(w:World)(hF:FT p m md l)(hG:GFAt w B gb p m l (logL l (p ^ m)))(ac:v.length=u.length)(hu:∀ x∈u,x<p ^ m)(hv:∀ x∈v,x<p ^ m)(hU:IntsAt w B Au (nz u))(hV:IntsAt w B Av (nz v))(hl:u.length<=1000):
 zC 138 #[zP gb,zL Au u.length cu,zL Av u.length cv] w (Quiet (Y ((Dv.dotO (opsT p m l) 0 u v:Nat):Int)) w):=by
 have N:0<p^m:=by have:=hF.small.p1;exact Nat.pow_pos U0
 have Q:Hid (∀x y n,x<p^m->y<p^m->zC 142 (Cn gb x y) (w.drewN n) (Quiet (Y (((opsT p m l).mul x y:Nat):Int)) (w.drewN n))):=
  fun x y n g h=>mul_c x y gb p m B md l (w.drewN n) hF hG g h
 have R:Hid (∀x y n,x<p^m->y<p^m->zC 143 (Cn gb x y) (w.drewN n) (Quiet (Y (((opsT p m l).add x y:Nat):Int)) (w.drewN n))):=
  fun x y n g h=>add_c x y gb p m B l _ (w.drewN n) hF.small hG g h
 have I:Hid (∀x y,x<p^m->y<p^m->(opsT p m l).mul x y<p^m):=fun x y g h=>mulT_lt hF g h;have E:Hid (∀x y,x<p^m->y<p^m->(opsT p m l).add x y<p^m):=fun x y _ _=>qdR (by have:=hF.small.p1;omega) m x y;have L:Hid (∀k,k<u.length->v.getD k 0<p^m):=fun k C=>by
  have z:k<v.length:=U0;have:v.getD k 0=v[k]:=by simp[List.getD,z]
  rw[this];exact hv _ (List.getElem_mem z)
 have K:Hid (∀k,k<u.length->u.getD k 0<p^m):=fun k C=>by
  have:u.getD k 0=u[k]:=by simp[List.getD,C]
  rw[this];exact hu _ (List.getElem_mem C)
 have S:=zH hU;have T:=zH hV;have d:=zH ac;clear hF hG hv hu hU hV ac;generalize opsT p m l=O at *;generalize p^m=q at *;go_enter Tryz.func138,Tryz.ntmps138;go_wp2_with fail;go_loopw [7,14] (fun v7 v14 wr=>RelDot w q O u v v7 v14 wr) (fun _ v14 _=>u.length-(intOf v14).toNat);case atStart=>exact⟨0,0,0,U0,rfl,rfl,N,rfl,rfl⟩
 case round =>
  obtain⟨k,s,n,C,rfl,rfl,U,f,rfl⟩:=hrel;have c:=zH f;clear f;by_cases b:k<u.length
  . obtain ⟨Z,ou,rfl,aa,o⟩ := S.out.at_ (k := k) (by rw [qaA];exact b);obtain ⟨bv,ov,rfl,ab,r⟩:=T.out.at_ (k:=k) (by rw [qaA,d.out];exact b);rw [qaC] at o r;have J:=zH (dotO_step b (by rw [d.out];exact b) c.out);have g:=K.out k b;have h:=L.out k b;have k0:(0:Int)<=(k:Int):=U0;have k1:(k:Int)<(u.length:Int):=U0;have hw:IntKind.i64.wrap ((k:Int)+1)=(k:Int)+1:=IntWalk.i64_in _ U0;generalize u.getD k 0=x at *;generalize v.getD k 0=y at *;(have H:Hid (∀ W,SDrew (w.drewN n) W->W.cell? (zA Z (ou+k))=some (Y x)/\W.cell? (zA bv (ov+k))=some (Y y)):=fun W ⟨j,hW⟩=>by subst hW;exact ⟨o,r⟩);(have X:Hid (∀ W,SDrew (w.drewN n) W->zC 142 (Cn gb x y) W fun e w'=>e=.returned (Y ((O.mul x y:Nat):Int))/\SDrew (w.drewN n) w'):=fun W ⟨j,hW⟩=>by subst hW;rw [World.drewN_drewN];refine (Q.out x y _ g h).mono ?_;rintro e w' ⟨he,i,rfl⟩;exact ⟨he,j+i,by rw [World.drewN_drewN,World.drewN_drewN,Nat.add_assoc]⟩);have A:=I.out x y g h;(have D:Hid (∀ W,SDrew (w.drewN n) W->zC 143 (Cn gb s ((O.mul x y:Nat):Int)) W fun e w'=>e=.returned (Y ((O.add s (O.mul x y):Nat):Int))/\SDrew (w.drewN n) w'):=fun W ⟨j,hW⟩=>by subst hW;rw [World.drewN_drewN];refine (R.out s _ _ U A).mono ?_;rintro e w' ⟨he,i,rfl⟩;exact ⟨he,j+i,by rw [World.drewN_drewN,World.drewN_drewN,Nat.add_assoc]⟩);have P:=E.out s _ U A;clear o r Q R S T;go_upto_region 5 with fail;refine qaD (SDrew (w.drewN n)) U1 U1 ⟨1,rfl⟩ ?_
    repeat (first
     | (apply qaJ rfl
        . intro W t
          obtain⟨y0,y1⟩:=H.out W t
          go_simp
          try rfl
        go_simp)
     | (apply qaO rfl
        . intro W t
          go_simp
          exact⟨rfl,rfl⟩
        . intro W t
          first
           |exact X.out W t
           |exact D.out W t
        go_simp))
    refine qaE ?_;intro w2 M;obtain⟨j,rfl⟩:=M;rw[World.drewN_drewN];go_wp2_with fail;go_roundw;case rel=>exact⟨k+1,_,_,U0,rfl,gn,P,J.out,rfl⟩
    case measure=>exact mE
  . (obtain rfl:k=u.length:=by omega);(have V:Hid (Dv.dotO O 0 u v=s):=by show _=_;have:=c.out;rw[List.drop_length] at this;rw[<- this];rfl);go_wp2_with fail;go_ret;exact⟨qaG (by rw[V.out]),n,rfl⟩
def GFM(w:World)(B gb p m:Nat)(mod:List Int)(l lg:List Nat):Prop:=
 gb<B/\∃(A3:Option Addr)(c3 ge ce gl cl:Nat),w.heap[gb]?=some (Df p m A3 mod.length c3 ((p^m:Nat):Int) ge l.length ce gl lg.length cl)/\
  IntsAt w B A3 mod/\IntsAt w B (zO ge) (nz l)/\IntsAt w B (zO gl) (nz lg)
theorem GFM.gf{w:World}{B q p m:Nat}{mod:List Int}{l r:List Nat}(h:GFM w B q p m mod l r):GFAt w B q p m l r:=by obtain⟨j,b,c,g,d,i,f,k,_,n,o⟩:=h;exact⟨j,b,_,c,g,d,i,f,k,n,o⟩
theorem GFM.keep{w w':World}{B s p m:Nat}{mod:List Int}{l t:List Nat}(h:GFM w B s p m mod l t)(r:Below B w w'):GFM w' B s p m mod l t:=by obtain⟨b,c,d,i,f,j,g,k,q,n,o⟩:=h;exact⟨b,c,d,i,f,j,g,(r.block s b).trans k,q.keep r,n.keep r,o.keep r⟩
theorem GFM.more{w:World}{B B' s p m:Nat}{mod:List Int}{l t:List Nat}(h:GFM w B s p m mod l t)(r:B<=B'):GFM w B' s p m mod l t:=by obtain⟨q,b,c,g,d,i,f,j,o,k,n⟩:=h;exact⟨U0,b,c,g,d,i,f,j,o.more r,k.more r,n.more r⟩
def CutM(w:World)(p m:Int)(mod:List Int)(q:Nat)(ge k ce:Nat)(l:List Nat)(v6:Value)(wx:World):Prop:=
 ∃(gb ga ca gl:Nat),v6=zP gb/\w.heap.size<gb/\gb≠gl/\ge≠gl/\ga≠gl/\
  wx.heap[gb]?=some (Cw p m ga mod.length ca q ge k ce gl q q)/\
  Row wx w.heap.size ge ce (nz l)/\Row wx (w.heap.size+1) gl q (nz (List.replicate q 0))/\Row wx (w.heap.size+1) ga ca mod/\Below w.heap.size w wx
theorem CutM.drew{w:World}{p m:Int}{mod:List Int}{q y k x:Nat}{l:List Nat}{v:Value}{z:World}(h:CutM w p m mod q y k x l v z):CutM w p m mod q y k x l v z.drew:=by obtain⟨d,c,ca,f,g,i,j,n,o,r,s,t,u,b⟩:=h;exact⟨d,c,ca,f,g,i,j,n,o,r,s,t,u,b.drew⟩
def RelMd(w:World)(p m:Int)(mod:List Int)(q gb ge gl ce ga ca:Nat)(l:List Nat)(v39:Value)(wr:World):Prop:=
 ∃n:Nat,n<=l.length/\v39=Y n/\
  wr.heap[gb]?=some (Cw p m ga mod.length ca q ge l.length ce gl q q)/\
  Row wr w.heap.size ge ce (nz l)/\Row wr (w.heap.size+1) gl q (nz (logGo l (List.replicate q 0) n))/\Row wr (w.heap.size+1) ga ca mod/\Below w.heap.size w wr
theorem cutM_mk{w b:World}{p m:Int}{mod:List Int}{r q g k h c f ca:Nat}{l:List Nat}(n:mod.length=r)(t:Row b (w.heap.size+1) f ca mod)(i:f≠c)(s:Row b w.heap.size g h (nz l))(o:Row b (w.heap.size+1) c q (nz (List.replicate q 0)))(u:Below w.heap.size w b)(j:g≠c)(d:w.heap.size<b.heap.size):
 CutM w p m mod q g k h l (zP b.heap.size) (b.alloc (Cw p m f r ca q g k h c q q)):=
 ⟨_,f,ca,c,rfl,d,by have:=o.lt;omega,j,i,by rw[n];exact heap_alloc_new _ _,s.alloc _,o.alloc _,t.alloc _,u.alloc (Nat.le_of_lt d) _⟩
theorem fnew_any(p m:Int)(mod:List Int)(A:Option Addr)(c:Nat)(w:World)(hA:IntsAt w w.heap.size A mod)(cz:fieldOK p m mod=true):
 zC 72 #[Ch p m A mod.length c] w fun e w'=>(∃gb,e=.returned (.tuple (Dm gb))/\w.heap.size<=gb/\
  GFM w' w'.heap.size gb p.toNat m.toNat mod (genM (mulM p.toNat m.toNat (mdOf m mod)) (p.toNat^m.toNat)) (logL (genM (mulM p.toNat m.toNat (mdOf m mod)) (p.toNat^m.toNat)) (p.toNat^m.toNat)))/\Below w.heap.size w w':=by
 have bc:shapeM p m mod=true:=by unfold fieldOK at cz;rw[Bool.and_eq_true] at cz;exact cz.1
 have ak:genM (mulM p.toNat m.toNat (mdOf m mod)) (p.toNat^m.toNat)≠[]:=by unfold fieldOK at cz;rw[Bool.and_eq_true] at cz;intro h;rw[h] at cz;simp at cz
 have O:=shape_is bc;have cr:mod.length<=8:=by
  by_cases hm:m=1
  . rw[O.one hm];simp
  . rw[O.len hm];exact O.small.m2
 have cf:=zH O;have HA:=zH hA;have au:=zH (qaV (p:=p.toNat) (m:=m.toNat) (by have:=O.small.p1;omega) O.small.m1 (mdOf m mod));have av:=zH (genM_tab au.out ak);have cw:=O.small.q;have ct:=au.out.q1;have bi:=zH O.ord
 have bh:Hid (∀W,w.heap.size<=W.heap.size->Below w.heap.size w W->zC 94 #[Ch p m A mod.length c] W fun e w'=>e=.returned (.bool true)/\Below W.heap.size W w'):=
  fun W h1 h2=>by
   have:=shape_c p m mod A c W ((hA.keep h2).more h1) U0
   rw[bc] at this
   exact this
 have bf:Hid (∀ W,w.heap.size<=W.heap.size->Below w.heap.size w W->zC 95 #[Ch p m A mod.length c,Y ((p.toNat ^ m.toNat:Nat):Int)] W fun e w'=>(∃ g c',e=.returned (zS g (genM (mulM p.toNat m.toNat (mdOf m mod)) (p.toNat ^ m.toNat)).length c')/\Row w' W.heap.size g c' (nz (genM (mulM p.toNat m.toNat (mdOf m mod)) (p.toNat ^ m.toNat))))/\Below W.heap.size W w') :=
  fun W h1 h2=>by
   have:=generator_s O A c W ((hA.keep h2).more h1)
   rw[O.ord] at this
   refine this.mono fun e w' ⟨⟨v,he,hv⟩,hb⟩=>?_
   rcases hv with⟨h,_⟩|⟨_,g,c',rfl,hr⟩
   . exact absurd h ak
   . rw[qaA] at he
     exact⟨⟨g,c',he,hr⟩,hb⟩
 have bg:Hid (∀W:World,zC 96 #[Y p,Y m] W fun e w'=>e=.returned (Y ((p.toNat^m.toNat:Nat):Int))/\W=w'):=fun W=>by have:=qcX p m W;rw[O.ord] at this;exact this
 have b9:=zH O.p0;have b8:=zH O.m0;clear bc ak O hA cz cf bi;generalize ck:genM (mulM p.toNat m.toNat (mdOf m mod)) (p.toNat^m.toNat)=l at *;generalize cl:mulM p.toNat m.toNat (mdOf m mod)=mul at *;generalize bz:p.toNat^m.toNat=q at *;have cd:=zH bz;have bw:l.length=q-1:=av.out.len;have b6:=zH bw;clear ck cl bz bw;obtain⟨i0,hi,b1,b2,bd⟩:=qaF infoInt;have HI:=zH hi;have af:=zH b1;have ag:=zH b2;have ah:=zH bd;have cm:=zH (show i0.bytes*q<=281474976710656 by rw[bd];omega);have Z:=zH (show q<=maxLen by unfold maxLen;omega);clear hi b1 b2 bd;go_enter Tryz.func72,Tryz.ntmps72;have ae:Hid ((w.alloc (Ce p m A mod.length c)).heap.size=w.heap.size+1):=U7;have t:Hid ((w.alloc (Ce p m A mod.length c)).heap[w.heap.size]?=some (.cells (Ci p m A mod.length c).toArray 29 (0,0))):=heap_alloc_new _ _;have az:Hid (Below w.heap.size w (w.alloc (Ce p m A mod.length c))):=(Below.refl _ _).alloc (Nat.le_refl _) _;go_wp2_with fail;generalize w.alloc (Ce p m A mod.length c)=W0 at *;(with_reducible refine(bh.out W0 (by have:=ae.out;omega) az.out).mono ?_);rintro e w1 ⟨rfl,hb1⟩;have V:w.heap.size<w1.heap.size:=by have:=ae.out;have:=hb1.size;omega
 have a2:=zH (az.out.trans (hb1.mono (by have:=ae.out;omega)));have aa:=zH ((hb1.block w.heap.size (by have:=ae.out;omega)).trans t.out);clear hb1 az t ae;clear W0;have a0:w1.cell? (zA w.heap.size 0)=some (Y p):=cell_of_row _ _ 0 _ _ _ aa.out;have a1:w1.cell? (zA w.heap.size 1)=some (Y m):=cell_of_row _ _ 1 _ _ _ aa.out;have bj:=zH (range_of_row aa.out);go_wp2_with (first | (go_at_call 96;refine (bg.out _).mono ?_;rintro e w' ⟨rfl,rfl⟩) | (refine wpList_load_mid rfl 29 (.tmp 1) rfl w.heap.size 0 rfl (Ci p m A mod.length c) _ bj.out Tryz.underlying29 rfl fieldSize ?_));(with_reducible refine (bf.out w1 (Nat.le_of_lt V) a2.out).mono ?_);rintro e d ⟨⟨ge,ce,rfl,hrow⟩,hb2⟩;have b0:w.heap.size<d.heap.size:=Nat.lt_of_lt_of_le V hb2.size;have y:=zH (a2.out.trans (hb2.mono (Nat.le_of_lt V)));have ap:=zH ((hb2.block w.heap.size V).trans aa.out);have aj:=hrow.lt;have Q:=zH (hrow.base (B':=w.heap.size) U0);clear hrow hb2 a2 aa bj a0 a1;have co:Hid (w.heap.size<ge):=Nat.lt_of_lt_of_le V aj.1;have ar:Hid (ge<d.heap.size):=aj.2;clear aj V;clear w1;have ci:∀ (W:World) (a:Option Addr) (n c n' c':Nat),(binOp .eql 23 (zL a n c) (zL none n' c')).run Tryz.prog W=.ok (.bool a.isNone) W:=fun W a n c n' c'=>Lib.run_eql_slice_nil W 23 3 a n c n' c' Tryz.underlying23;go_upto_region 7 with fail;clear ci;have z0:d.cell? (zA w.heap.size 0)=some (Y p):=cell_of_row _ _ 0 _ _ _ ap.out;have z1:d.cell? (zA w.heap.size 1)=some (Y m):=cell_of_row _ _ 1 _ _ _ ap.out;have z2:d.cell? (zA w.heap.size 2)=some (zL A mod.length c):=cell_of_row _ _ 2 _ _ _ ap.out;go_cut [6] (fun v6 wx=>CutM w p m mod q ge l.length ce l v6 wx);case first =>
  by_cases bx:mod.length=0
  . have r : w.heap.size < d.heap.size := b0;have J:=zH bx;clear bx;have bp:=zH z0;have bq:=zH z1;have br:=zH z2;obtain ⟨f,K⟩:∃ f,f=madeCells (Y 0).cells (q*1):=⟨_,rfl⟩;have S:=zH K;(have bb:∀ W:World,(Instr.makeSlice 23 (Y (q:Int)) (Y (q:Int))).run Tryz.prog W=.ok (zS W.heap.size q q) (W.alloc (.cells f 3)):=fun W=>by have:=run_make (P:=Tryz.prog) W 23 3 i0 (Y 0) Tryz.underlying23 HI.out af.out .i64 .i64 (q:Int) (q:Int) U0 (Int.le_refl _) (by rw [ah.out];omega) U0;rw [ag.out,Int.toNat_natCast,<- K] at this;exact this);clear K;have ac:Hid ((d.alloc (.cells #[] 3)).drew.ownsRow (w.heap.size+1) 3 1 (zS d.heap.size 0 0) 0 []):=World.ownsRow_made d #[] 0 r U3 rfl;have L:Hid (((d.alloc (.cells #[] 3)).alloc (.cells f 3)).drew.ownsRow (w.heap.size+1) 3 1 (zS d.heap.size 0 0) 0 []):=World.ownsRow.alloc (World.ownsRow_made d #[] 0 r U3 rfl) _;(have M:Hid (((d.alloc (.cells f 3)).alloc (.cells #[] 3)).drew.ownsRow (w.heap.size+1) 3 1 (zS (d.heap.size+1) 0 0) 0 []):=by have h:=World.ownsRow_made (e:=3) (base:=w.heap.size+1) (size:=1) (d.alloc (.cells f 3)) #[] 0 so U3 rfl;rw [show (d.alloc (.cells f 3)).heap.size=d.heap.size+1 by simp] at h;exact h)
    go_region_held3 (fun w'=>w'.cell? (zA w.heap.size 0)=some (Y p)/\w'.cell? (zA w.heap.size 1)=some (Y m)/\w'.cell? (zA w.heap.size 2)=some (zL A mod.length c))
     (first|(with_reducible exact⟨cell3 bp.out r _ _ _,cell3 bq.out r _ _ _,cell3 br.out r _ _ _⟩)|go_keep)
     (first|(refine step_append_zero rfl _ _ _ rfl (w.heap.size+1) 3 i0 1 Tryz.underlying23 HI.out (zS d.heap.size 0 0) 0 [] (by rfl) ac.out A mod.length c J.out (by rfl) ?_)|(refine step_append_zero rfl _ _ _ rfl (w.heap.size+1) 3 i0 1 Tryz.underlying23 HI.out (zS d.heap.size 0 0) 0 [] (by rfl) L.out A mod.length c J.out (by rfl) ?_)|(refine step_append_zero rfl _ _ _ rfl (w.heap.size+1) 3 i0 1 Tryz.underlying23 HI.out (zS (d.heap.size+1) 0 0) 0 [] (by rfl) M.out A mod.length c J.out (by rfl) ?_))
    (all_goals (clear bb z0 z1 z2));(all_goals (have bv:=ar.out))
    all_goals
     have cg:Hid (CutM w p m mod q ge l.length ce l (zP (d.heap.size+1+1)) (((d.alloc (.cells #[] 3)).alloc (.cells f 3)).alloc (Cw p m d.heap.size 0 0 q ge l.length ce (d.heap.size+1) q q)).drew):=by
      have hz:=row_zz (d.alloc (.cells #[] 3)) (B:=w.heap.size+1) S.out so Z.out
      rw[show(d.alloc (.cells #[] 3)).heap.size=d.heap.size+1 by simp] at hz
      have h:=cutM_mk (p:=p) (m:=m) (k:=l.length) (ca:=0) J.out (show Row ((d.alloc (.cells #[] 3)).alloc (.cells f 3)) (w.heap.size+1) d.heap.size 0 mod by rw[List.length_eq_zero_iff.1 J.out];exact L.out) U0 ((Q.out.alloc (.cells #[] 3)).alloc (.cells f 3)) hz ((y.out.alloc (Nat.le_of_lt r) _).alloc so _) U0 so
      rw[show((d.alloc (.cells #[] 3)).alloc (.cells f 3)).heap.size=d.heap.size+1+1 by simp] at h
      exact h.drew
     have ch:Hid (CutM w p m mod q ge l.length ce l (zP (d.heap.size+1+1)) (((d.alloc (.cells f 3)).alloc (.cells #[] 3)).alloc (Cw p m (d.heap.size+1) 0 0 q ge l.length ce d.heap.size q q)).drew):=by
      have hz:=(row_zz d (B:=w.heap.size+1) S.out r Z.out).alloc (.cells #[] 3)
      have h:=cutM_mk (p:=p) (m:=m) (k:=l.length) (ca:=0) J.out (show Row ((d.alloc (.cells f 3)).alloc (.cells #[] 3)) (w.heap.size+1) (d.heap.size+1) 0 mod by rw[List.length_eq_zero_iff.1 J.out];exact M.out) U0 ((Q.out.alloc (.cells f 3)).alloc (.cells #[] 3)) hz ((y.out.alloc (Nat.le_of_lt r) _).alloc so _) U0 so
      rw[show((d.alloc (.cells f 3)).alloc (.cells #[] 3)).heap.size=d.heap.size+1+1 by simp] at h
      exact h.drew
     go_wp2_with fail
     go_meet
     first
      |exact cg.out
      |exact ch.out
  . obtain ⟨b,o,rfl,cq,bs⟩ := (HA.out.keep y.out) U0;have cn:=zH bs;clear bs;have r:w.heap.size<d.heap.size:=b0;obtain ⟨f,K⟩:∃ f,f=madeCells (Y 0).cells (q*1):=⟨_,rfl⟩;have S:=zH K;(have bb:∀ W:World,(Instr.makeSlice 23 (Y (q:Int)) (Y (q:Int))).run Tryz.prog W=.ok (zS W.heap.size q q) (W.alloc (.cells f 3)):=fun W=>by have:=run_make (P:=Tryz.prog) W 23 3 i0 (Y 0) Tryz.underlying23 HI.out af.out .i64 .i64 (q:Int) (q:Int) U0 (Int.le_refl _) (by rw [ah.out];omega) U0;rw [ag.out,Int.toNat_natCast,<- K] at this;exact this);clear K;(have E:Hid (w.heap.size+1<=(d.alloc (.cells #[] 3)).drew.heap.size):=by show _<=_;rw [show (d.alloc (.cells #[] 3)).drew.heap.size=d.heap.size+1 by simp];omega);have ac:Hid ((d.alloc (.cells #[] 3)).drew.ownsRow (w.heap.size+1) 3 1 (zS d.heap.size 0 0) 0 []):=World.ownsRow_made d #[] 0 r U3 rfl;have aw:Hid (Below w.heap.size w (d.alloc (.cells #[] 3)).drew):=(y.out.alloc (Nat.le_of_lt r) _).drew;have a7:Hid (∀ (j:Nat) (u:Value),(mod.map (Value.int .i64))[j]?=some u->(d.alloc (.cells #[] 3)).drew.cell? ((⟨b,o,none⟩:Addr).add j)=some u):=(HA.out.keep aw.out).news;have a3:Hid (Row (d.alloc (.cells #[] 3)).drew w.heap.size ge ce (nz l)):=Q.out.alloc _;(have H:Hid (w.heap.size+1<=((d.alloc (.cells #[] 3)).alloc (.cells f 3)).drew.heap.size):=by show _<=_;rw [show ((d.alloc (.cells #[] 3)).alloc (.cells f 3)).drew.heap.size=d.heap.size+2 by simp];omega);have L:Hid (((d.alloc (.cells #[] 3)).alloc (.cells f 3)).drew.ownsRow (w.heap.size+1) 3 1 (zS d.heap.size 0 0) 0 []):=World.ownsRow.alloc (World.ownsRow_made d #[] 0 r U3 rfl) _;have ax:Hid (Below w.heap.size w ((d.alloc (.cells #[] 3)).alloc (.cells f 3)).drew):=((y.out.alloc (Nat.le_of_lt r) _).alloc so _).drew;have a8:Hid (∀ (j:Nat) (u:Value),(mod.map (Value.int .i64))[j]?=some u->((d.alloc (.cells #[] 3)).alloc (.cells f 3)).drew.cell? ((⟨b,o,none⟩:Addr).add j)=some u):=(HA.out.keep ax.out).news;have a4:Hid (Row ((d.alloc (.cells #[] 3)).alloc (.cells f 3)).drew w.heap.size ge ce (nz l)):=(Q.out.alloc _).alloc _;(have I:Hid (w.heap.size+1<=((d.alloc (.cells f 3)).alloc (.cells #[] 3)).drew.heap.size):=by show _<=_;rw [show ((d.alloc (.cells f 3)).alloc (.cells #[] 3)).drew.heap.size=d.heap.size+2 by simp];omega);(have M:Hid (((d.alloc (.cells f 3)).alloc (.cells #[] 3)).drew.ownsRow (w.heap.size+1) 3 1 (zS (d.heap.size+1) 0 0) 0 []):=by have h:=World.ownsRow_made (e:=3) (base:=w.heap.size+1) (size:=1) (d.alloc (.cells f 3)) #[] 0 so U3 rfl;rw [show (d.alloc (.cells f 3)).heap.size=d.heap.size+1 by simp] at h;exact h);have ay:Hid (Below w.heap.size w ((d.alloc (.cells f 3)).alloc (.cells #[] 3)).drew):=((y.out.alloc (Nat.le_of_lt r) _).alloc so _).drew;have a9:Hid (∀ (j:Nat) (u:Value),(mod.map (Value.int .i64))[j]?=some u->((d.alloc (.cells f 3)).alloc (.cells #[] 3)).drew.cell? ((⟨b,o,none⟩:Addr).add j)=some u):=(HA.out.keep ay.out).news;have a5:Hid (Row ((d.alloc (.cells f 3)).alloc (.cells #[] 3)).drew w.heap.size ge ce (nz l)):=(Q.out.alloc _).alloc _;(have ad:Hid (∀ u∈mod.map (Value.int .i64),u.oneCell'=true):=fun u hu=>by obtain ⟨z,_,rfl⟩:=List.mem_map.1 hu;rfl);(have bm:Hid (Row ((d.alloc (.cells #[] 3)).alloc (.cells f 3)).drew (w.heap.size+1) (d.heap.size+1) q (nz (List.replicate q 0))):=by have h:=row_zz (d.alloc (.cells #[] 3)) (B:=w.heap.size+1) S.out so Z.out;rw [show (d.alloc (.cells #[] 3)).heap.size=d.heap.size+1 by simp] at h;exact h);have bn:Hid (Row ((d.alloc (.cells f 3)).alloc (.cells #[] 3)).drew (w.heap.size+1) d.heap.size q (nz (List.replicate q 0))):=(row_zz d (B:=w.heap.size+1) S.out r Z.out).alloc _;have bv:=ar.out
    go_region_held3 (fun w'=>w'.cell? (zA w.heap.size 0)=some (Y p)/\w'.cell? (zA w.heap.size 1)=some (Y m)/\w'.cell? (zA w.heap.size 2)=some (zL (some (zA b o)) mod.length c))
     (first|go_keep|(go_split_ands;exact⟨(i.cell_far (zA w.heap.size 0) U6 V2).trans am,(i.cell_far (zA w.heap.size 1) U6 V2).trans am,(i.cell_far (zA w.heap.size 2) U6 V2).trans am⟩))
     (first|(refine step_append_lies _ (by rfl) _ _ _ (by rfl) (w.heap.size+1) 3 i0 _ 1 8 Tryz.underlying23 HI.out af.out ag.out ah.out rfl U0 (zS d.heap.size 0 0) 0 [] (by rfl) ac.out (zA b o) mod.length c (mod.map (Value.int .i64)) (by rfl) U2 a7.out ad.out U0 U3 U0 E.out _ rfl ?_;intro N ca s U i ai T;have X:w.heap.size<s.heap.size:=Nat.lt_of_lt_of_le E.out i.size;have HE:Hid (Row s w.heap.size ge ce (nz l)):=a3.out.grown i V0;have HW:Hid (Below w.heap.size w s):=aw.out.grown i (Nat.le_of_lt E.out) (fun k hk=>by simp[Value.ownBlock] at hk;omega);have ab:Hid (Row s (w.heap.size+1) N ca mod):=(by show s.ownsRow _ _ _ _ _ _;simpa using U);have C:N<s.heap.size:=T)|(refine step_append_lies _ (by rfl) _ _ _ (by rfl) (w.heap.size+1) 3 i0 _ 1 8 Tryz.underlying23 HI.out af.out ag.out ah.out rfl U0 (zS d.heap.size 0 0) 0 [] (by rfl) L.out (zA b o) mod.length c (mod.map (Value.int .i64)) (by rfl) U2 a8.out ad.out U0 U3 U0 H.out _ rfl ?_;intro N ca s U i ai T;have X:w.heap.size<s.heap.size:=Nat.lt_of_lt_of_le H.out i.size;have HE:Hid (Row s w.heap.size ge ce (nz l)):=a4.out.grown i V0;have HW:Hid (Below w.heap.size w s):=ax.out.grown i (Nat.le_of_lt H.out) (fun k hk=>by simp[Value.ownBlock] at hk;omega);have ba:Hid (Row s (w.heap.size+1) (d.heap.size+1) q (nz (List.replicate q 0))):=bm.out.grown i (by simp[Value.ownBlock]);have ab:Hid (Row s (w.heap.size+1) N ca mod):=(by show s.ownsRow _ _ _ _ _ _;simpa using U);have C:N≠d.heap.size+1:=(by rcases ai with h|h<;>simp[Value.ownBlock] at h<;>omega))|(refine step_append_lies _ (by rfl) _ _ _ (by rfl) (w.heap.size+1) 3 i0 _ 1 8 Tryz.underlying23 HI.out af.out ag.out ah.out rfl U0 (zS (d.heap.size+1) 0 0) 0 [] (by rfl) M.out (zA b o) mod.length c (mod.map (Value.int .i64)) (by rfl) U2 a9.out ad.out U0 U3 U0 I.out _ rfl ?_;intro N ca s U i ai T;have X:w.heap.size<s.heap.size:=Nat.lt_of_lt_of_le I.out i.size;have HE:Hid (Row s w.heap.size ge ce (nz l)):=a5.out.grown i V0;have HW:Hid (Below w.heap.size w s):=ay.out.grown i (Nat.le_of_lt I.out) (fun k hk=>by simp[Value.ownBlock] at hk;omega);have ba:Hid (Row s (w.heap.size+1) d.heap.size q (nz (List.replicate q 0))):=bn.out.grown i (by simp[Value.ownBlock]);have ab:Hid (Row s (w.heap.size+1) N ca mod):=(by show s.ownsRow _ _ _ _ _ _;simpa using U);have C:N≠d.heap.size:=(by rcases ai with h|h<;>simp[Value.ownBlock] at h<;>omega)))
    all_goals (clear bb U i ai z0 z1 z2)
    . (have HX:Hid (CutM w p m mod q ge l.length ce l (zP (s.heap.size+1)) ((s.alloc (.cells f 3)).alloc (Cw p m N mod.length ca q ge l.length ce s.heap.size q q))):=by have h:=cutM_mk (p:=p) (m:=m) (k:=l.length) (ca:=ca) rfl (ab.out.alloc (.cells f 3)) (show N≠s.heap.size by omega) (HE.out.alloc (.cells f 3)) (row_zz s (B:=w.heap.size+1) S.out X Z.out) (HW.out.alloc (Nat.le_of_lt X) _) (by have:=HE.out.lt;omega) so;rw[show(s.alloc (.cells f 3)).heap.size=s.heap.size+1 by simp] at h;exact h);go_wp2_with fail;go_meet;exact HX.out
    . have HX:=zH (cutM_mk (p:=p) (m:=m) (k:=l.length) (ca:=ca) rfl ab.out C HE.out ba.out HW.out U0 X);go_wp2_with fail;go_meet;exact HX.out
    . have HX:=zH (cutM_mk (p:=p) (m:=m) (k:=l.length) (ca:=ca) rfl ab.out C HE.out ba.out HW.out U0 X);go_wp2_with fail;go_meet;exact HX.out
 case rest =>
  obtain⟨gb,N,ca,gl,rfl,cj,aj,bu,C,D,an,ao,al,hb⟩:=hcut;have HS:Hid (RelMd w p m mod q gb ge gl ce N ca l (Y ((0:Nat):Int)) wc):=⟨0,Nat.zero_le _,rfl,D,an,ao,al,hb⟩;have cs:l.length<=256:=by rw[b6.out];omega
  have b7:Hid (∀n,n<l.length->l.getD n 0<q):=fun n hn=>by(have e:l.getD n 0=l[n]:=by simp[List.getD,hn]);rw[e];exact av.out.lt _ (List.getElem_mem hn)
  clear D an ao al hb z0 z1 z2 bh bf bg ap Q;go_wp2_with fail;go_loopw [39] (fun v39 wr=>RelMd w p m mod q gb ge gl ce N ca l v39 wr) (fun v39 _=>l.length-(intOf v39).toNat);case atStart=>exact HS.out
  case round =>
   obtain⟨n,hn,rfl,D,an,ao,al,hb⟩:=hrel;have a6:=zH al;have t:=zH D;have aq:=zH an;have R:=zH ao;have be:=zH hb;clear D an ao al hb HS;(have b3:Hid ((logGo l (List.replicate q 0) n).length=q):=by show _=_;rw[qcL,List.length_replicate]);by_cases T:n<l.length
   . have hx := b7.out n T;(have y0:wr.cell? (zA ge n)=some (Y ((l.getD n 0:Nat):Int)):=by rw [<- qaC];exact aq.out.cell (by rw [qaA];exact T));have y1:wr.cell? (zA gb 5)=some (zS gl q q):=cell_of_row _ _ 5 _ _ _ t.out;have bo:Hid ((logGo l (List.replicate q 0) n).set (l.getD n 0) n=logGo l (List.replicate q 0) (n+1)):=rfl;(have y2:wr.cell? (zA gl (l.getD n 0))=some (Y ((logGo l (List.replicate q 0) n).getD (l.getD n 0) 0:Nat)):=by rw [<- qaC];exact R.out.cell (by rw [qaA,b3.out];exact hx));have f2:=R.out.frozen (l.getD n 0);generalize l.getD n 0=x at *;have cx:(0:Int)<=(x:Int):=U0;have cy:(x:Int)<(q:Int):=U0;go_wp2_with fail;go_roundw;case rel =>
      refine⟨n+1,U0,gn,?_,aq.out.far (p:=(zA gl x)) bu _,?_,a6.out.far (p:=(zA gl x)) C _,be.out.setCell (p:=(zA gl x)) (by have:=R.out.lt;show w.heap.size<=gl;omega) _⟩
      . exact(Below.heap_setCell wr (zA gl x) _ gb aj).trans t.out
      . rw[<- bo.out,<- qbC];exact R.out.set x n
     case measure=>exact mE
   . (obtain rfl : n = l.length := by omega);have bt:gb<wr.heap.size:=by
      rcases Nat.lt_or_ge gb wr.heap.size with h|h
      . exact h
      . have:=t.out;rw[Array.getElem?_eq_none h] at this;cases this
     go_wp2_with fail;go_ret2;refine⟨⟨gb,rfl,Nat.le_of_lt cj,bt,some (zA N 0),ca,ge,ce,gl,q,?_,a6.out.ints a6.out.lt.2,aq.out.ints aq.out.lt.2,R.out.ints R.out.lt.2⟩,be.out⟩;rw[b9.out,b8.out,cd.out];(have e:(logL l q).length=q:=by unfold logL;rw[qcL,List.length_replicate]);rw[e];exact t.out
end Go.Proofs.YtndipkplnkfoeaaGreat
