/- Parts of the proof. -/
import Derived.Test.YtflejelbdlelpaaGreatR27
set_option maxRecDepth 100000
set_option maxHeartbeats 8000000
namespace Go.Proofs.YtflejelbdlelpaaGreat
open Go.RowKit Pln Go.Proofs.Tryz
theorem sub_step{k x y c z:Nat}{a b L:LN}(d:k<L.length)(h:val BB (L.take k)+val BB (b.take k)=val BB (a.take k)+BB^k*c)(g:z=a.getD k 0)(f:x+b.getD k 0+c=z+BB*y):val BB ((L.set k x).take (k+1))+val BB (b.take (k+1))=val BB (a.take (k+1))+BB^(k+1)*y:=by rw[set_val BB d,qfC BB a k,qfC BB b k,Nat.pow_succ,Nat.mul_assoc,<- g];have e:=congrArg (BB^k*·) f;simp only[Nat.mul_add] at e;omega
def RelSu(w0:Wo)(B g c:Nat)(a b:LN)(k:Nat)(v7:Value)(L:LN)(wr:Wo):Prop:=
 ∃cy:Nat,cy<=1/\v7=.int .u64 (cy:Int)/\L.length=a.length/\(∀d∈L,d<BB)/\(∀j,k<=j->L.getD j 0=a.getD j 0)/\RowW wr B g c L/\Below B w0 wr/\val BB (L.take k)+val BB (b.take k)=val BB (a.take k)+BB^k*cy
theorem set_tail{a L:LN}{k x:Nat}(h:∀j,k<=j->L.getD j 0=a.getD j 0):∀j,k+1<=j->(L.set k x).getD j 0=a.getD j 0:=fun j hj=>by
 rw[<- h j U0]
 simp[List.getD,show k≠j by omega]
theorem natSub_c(A1 A2:OA)(l1 l2:LN)(c1 c2:Nat)(w:Wo)(h1:WordsAt w w.heap.size A1 l1)(h2:WordsAt w w.heap.size A2 l2)(d1:Cn l1)(d2:Cn l2)(n1:l1.length<=100000)(ao:l1.length<=c1)(ap:l2.length<=c2)(an:val BB l2<=val BB l1):
 zC 234 #[zL A1 l1.length c1,zL A2 l2.length c2] w fun e w'=>∃v,e=.returned (.tuple #[v,Y 0])/\NatV w' w.heap.size v (val BB l1-val BB l2)/\zB w w':=by
 have af:l2.length<=l1.length:=cn_len d2 (Nat.lt_of_le_of_lt an (val_ltB d1.1));have M:=zH (cmp_c A1 A2 l1 l2 c1 c2 w h1 h2 d1 d2 n1 U0 ao ap);have O:cmpN (val BB l1) (val BB l2)=if val BB l2<val BB l1 then 1 else 0:=by unfold cmpN;rw[if_neg U0]
 have ac:zK (0<=cmpN (val BB l1) (val BB l2)):=by show _<=_;rw[O];split<;>omega
 have H1:=zH h1;have H2:=zH h2;have Z:=zH d1;have D2:=zH d2;have ad:=zH an;clear h1 h2 d1 d2 O an;generalize cmpN (val BB l1) (val BB l2)=cm at *;have ah:¬cm<0:=by have:=ac.o;omega
 go_enter func234,ntmps234;go_wp2_with fail;refine M.o.mono ?_;rintro e U ⟨rfl,hb1⟩;have p:=zH hb1;have HT:=zH (trim_c A1 l1 c1 U (H1.out.up hb1) U0 ao);rw[cn_trm Z.out] at HT;clear hb1 M;go_wp2_with fail;refine HT.o.mono ?_;rintro e I ⟨v,rfl,ho,hb2⟩;have q:=zH (p.o.trans (hb2.mono p.o.size));have z:=zH p.o.size;clear hb2 p HT;rcases ho.2 with⟨rfl,h0⟩|⟨g,c,cur,rfl,D⟩
 . (have HZ : zK (val BB l1 - val BB l2 = 0):=by show _=_;rw[List.length_eq_zero_iff.1 h0];exact Nat.zero_sub _);have s:=zH (qfN (A:=none) (l:=[]) (c:=0) (w:=I) WordsAt.nil U2 zn ⟨U2,U2⟩);have aj:(l1.length:Int)=0:=U0;clear ho;go_wp2;go_loopw [18] (fun v18 wr=>v18=Y 0/\wr=I) (fun _ _=>0);case atStart=>exact⟨rfl,rfl⟩
   case round=>obtain⟨rfl,rfl⟩:=hrel;go_wp2_with fail;refine s.o.mono ?_;rintro e w' ⟨rfl,rfl⟩;go_wp2;go_ret2;refine⟨_,rfl,?_,q.o⟩;rw[HZ.o];exact NatV.zero _ _
 . have hR : RowW I U.heap.size g c l1 := ho;have K:=zH hR.cap;have HR:zK (RelSu I U.heap.size g c l1 l2 0 (.int .u64 0) l1 I):=⟨0,U0,rfl,rfl,Z.out.1,fun _ _=>rfl,hR,Below.refl _ _,rfl⟩;clear ho hR D;have ab:zK (∀ W,Below U.heap.size I W->WordsAt W W.heap.size A2 l2):=fun W hW=>((H2.out.keep q.o).keep (hW.mono z.o)).more (Nat.le_trans q.o.size hW.size);go_wp2;go_loopw [7,18] (fun v7 v18 wr=>∃ (k:Nat)(L:LN),k<=l1.length/\v18=Y (k:Int)/\RelSu I U.heap.size g c l1 l2 k v7 L wr) (fun _ v18 _=>l1.length-(intOf v18).toNat);case atStart=>exact ⟨0,_,U0,rfl,HR.o⟩
   case round =>
    obtain⟨k,L,hk,rfl,f,ai,rfl,C,hd,R,m,hb,hv⟩:=hrel;have X:=zH C;have V:=zH hd;have N:=zH m;have r:=zH hb;have HV:=zH hv;have B:=zH R;have fr:=m.frozen k;have P:=m.lt.1;clear hd m hb hv R HR;by_cases al:k<l1.length
    . have yr := N.o.cell (j := k) U0;have S:=qfJ Z.out.1 dc k;have T:=qfJ D2.out.1 dc k;rw [B.o k zn] at yr;have i:=fun x y (hs:x+l2.getD k 0+f=l1.getD k 0+BB*y)=>sub_step (a:=l1) (b:=l2) (by rw [X.o];omega) HV.o rfl hs;have u:=zH (fun x=>set_tail (x:=x) B.o);clear C;by_cases Q:k<l2.length
      . obtain⟨bb,ob,rfl,ak,yb⟩:=(ab.o _ r.o).at_ (k:=k) Q;generalize l1.getD k 0=n at *;generalize l2.getD k 0=J at *;unfold BB at S T;obtain⟨x,hx⟩:∃x:Nat,(x:Int)=((n:Int)-f-J) % 4294967296:=⟨(((n:Int)-f-J) % 4294967296).toNat,U0⟩;(obtain⟨y,t⟩:∃y:Nat,y=if(n:Int)-f-J<0 then 1 else 0:=⟨_,rfl⟩);(have H:y<=1:=by rw[t];split<;>omega);have i:=zH (i x y (by unfold BB;split at t<;>omega));(have e1:IntKind.u64.wrap ((n:Int)-(f:Int))=((n:Int)-f) % 18446744073709551616:=by rw[IntKind.wrap_u64]);(have e2:IntKind.u64.wrap (((n:Int)-f) % 18446744073709551616-(J:Int))=((n:Int)-f-J) % 18446744073709551616:=by rw[IntKind.wrap_u64];omega);obtain⟨d,hd⟩:∃d:Int,d=((n:Int)-f-J) % 18446744073709551616:=⟨_,rfl⟩;rw[<- hd] at e2;(have e3:IntKind.u32.wrap d=(x:Int):=by rw[IntKind.wrap_u32];omega);(have e4:d / 9223372036854775808=(y:Int):=by split at t<;>omega);(have E:x<BB:=by unfold BB;omega);clear hx t hd;go_wp2;go_roundw;case rel=>exact⟨k+1,L.set k x,U0,U3,y,H,rfl,by rw[List.length_set,X.o],set_lt V.o E,u.o x,N.o.set k x,r.o.setCell P _,i.o⟩
        case measure=>simp[intOf];omega
      . (have e0 : l2.getD k 0 = 0:=by simp[List.getD,show l2.length<=k by omega]);rw[e0] at i;have ag:¬(k:Int)<(l2.length:Int):=U0;generalize l1.getD k 0=n at *;unfold BB at S;obtain⟨x,hx⟩:∃x:Nat,(x:Int)=((n:Int)-f) % 4294967296:=⟨(((n:Int)-f) % 4294967296).toNat,U0⟩;(obtain⟨y,t⟩:∃y:Nat,y=if(n:Int)-f<0 then 1 else 0:=⟨_,rfl⟩);(have H:y<=1:=by rw[t];split<;>omega);have i:=zH (i x y (by unfold BB;split at t<;>omega));obtain⟨d,hd⟩:∃d:Int,d=((n:Int)-f) % 18446744073709551616:=⟨_,rfl⟩;(have e1:IntKind.u64.wrap ((n:Int)-(f:Int))=d:=by rw[IntKind.wrap_u64,hd]);(have e3:IntKind.u32.wrap d=(x:Int):=by rw[IntKind.wrap_u32];omega);(have e4:d / 9223372036854775808=(y:Int):=by split at t<;>omega);(have E:x<BB:=by unfold BB;omega);clear hx t hd T e0;go_wp2;go_roundw;case rel=>exact⟨k+1,L.set k x,U0,U3,y,H,rfl,by rw[List.length_set,X.o],set_lt V.o E,u.o x,N.o.set k x,r.o.setCell P _,i.o⟩
        case measure=>simp[intOf];omega
    . (obtain rfl : k = l1.length := by omega);have ae:zK (val BB L=val BB l1-val BB l2):=by
       have h1:=HV.o;rw[<- C,List.take_length,C,List.take_length,List.take_of_length_le af] at h1;have h2:=val_ltB V.o;rw[C] at h2;have h3:=ad.o;have h4:f=0:=by
        rcases Nat.eq_zero_or_pos f with h|h
        . exact h
        . (have:f=1:=by omega);rw[this] at h1;omega
       show _=_;rw[h4] at h1;omega
      have s:=zH (short_c (zO g) L c wr N.o.words U0 (by rw[C];exact K.o));rw[X.o] at s;have aa:zK (zB w wr):=q.o.trans (r.o.mono z.o);clear HV fr C B;go_wp2_with fail;refine s.o.mono ?_;rintro e w' ⟨rfl,rfl⟩;go_wp2;go_ret2;refine⟨_,rfl,?_,aa.o⟩;rw[<- ae.o];exact(N.o.nat V.o).low z.o
theorem val_set(p:Nat):∀ (l:LN)(k x:Nat),k<l.length->val p (l.set k x)+p ^ k*l.getD k 0=val p l+p ^ k*x
 |[],_,_,h=>by simp at h
 |a :: l,0,x,_=>by
   show x+p*val p l+p^0*a=a+p*val p l+p^0*x
   rw[Nat.pow_zero,Nat.one_mul,Nat.one_mul]
   omega
 |a :: l,k + 1,x,h=>by
   have ih:=val_set p l k x (by simpa using h)
   show a+p*val p (l.set k x)+p^(k+1)*l.getD k 0=a+p*val p l+p^(k+1)*x
   have e:=congrArg (p*·) ih
   simp only[Nat.mul_add] at e
   rw[Nat.pow_succ,Nat.mul_comm (p^k) p,Nat.mul_assoc,Nat.mul_assoc]
   omega
theorem times_step{i j s x y z f g:Nat}{b L:LN}(h:i+j<L.length)(m:z=L.getD (i+j) 0)(l:y=b.getD j 0)(n:val BB L+BB^(i+j)*f=g+BB^i*(x*val BB (b.take j)))(k:s=x*y+z+f):
 val BB (L.set (i+j) (s % BB))+BB^(i+(j+1))*(s / BB)=g+BB^i*(x*val BB (b.take (j+1))):=by
 have c:=val_set BB L (i+j) (s % BB) h;rw[qfC BB b j,<- l,Nat.mul_add,Nat.mul_add,show i+(j+1)=i+j+1 from rfl,Nat.pow_succ,Nat.mul_assoc];have e:BB^(i+j)*s=BB^(i+j)*(s % BB)+BB^(i+j)*(BB*(s / BB)):=by rw[<- Nat.mul_add,Nat.mod_add_div]
 have d:BB^(i+j)*s=BB^i*(x*(BB^j*y))+BB^(i+j)*z+BB^(i+j)*f:=by rw[k,Nat.mul_add,Nat.mul_add,Nat.pow_add];congr 2;rw[Nat.mul_assoc,<- Nat.mul_assoc (BB^j),Nat.mul_comm (BB^j) x,Nat.mul_assoc x]
 rw[<- m] at c;omega
def RelTo(w:Wo)(a b:LN)(i:Nat)(L:LN)(wr:Wo):Prop:=
 L.length=a.length+b.length/\(∀d∈L,d<BB)/\(∀j,i+b.length<=j->L.getD j 0=0)/\RowW wr w.heap.size w.heap.size (a.length+b.length) L/\zB w wr/\val BB L=val BB (a.take i)*val BB b
def RelTi(w:Wo)(a b:LN)(i x V0 j:Nat)(v8:Value)(L:LN)(wr:Wo):Prop:=
 ∃cy:Nat,cy<4294967296/\v8=.int .u64 (cy:Int)/\L.length=a.length+b.length/\(∀d∈L,d<BB)/\(∀k,i+b.length<=k->L.getD k 0=0)/\RowW wr w.heap.size w.heap.size (a.length+b.length) L/\zB w wr/\val BB L+BB^(i+j)*cy=V0+BB^i*(x*val BB (b.take j))
theorem set_zero{L:LN}{k m x:Nat}(b:k<m)(h:∀j,m<=j->L.getD j 0=0):∀j,m<=j->(L.set k x).getD j 0=0:=fun j hj=>by
 have e:(L.set k x).getD j 0=L.getD j 0:=by simp[List.getD,show k≠j by omega]
 rw[e,h j hj]
theorem mul_le{x y:Nat}(b:x<4294967296)(c:y<4294967296):(x:Int)*(y:Int)<=18446744065119617025/\0<=(x:Int)*(y:Int):=by have h:x*y<=4294967295*4294967295:=Nat.mul_le_mul U0 U0;have e:((x*y:Nat):Int)=(x:Int)*(y:Int):=Int.natCast_mul x y;omega
theorem times_c(A1 A2:OA)(l1 l2:LN)(c1 c2:Nat)(w:Wo)(h1:WordsAt w w.heap.size A1 l1)(h2:WordsAt w w.heap.size A2 l2)(d1:∀ d∈l1,d<BB)(d2:∀ d∈l2,d<BB)(n1:l1.length<=100000)(n2:l2.length<=100000):
 zC 247 #[zL A1 l1.length c1,zL A2 l2.length c2] w (NatR (val BB l1*val BB l2) w):=by
 obtain⟨i0,hi,c,N,O⟩:=qaF infoWord;have HI:=zH hi;have W:=zH c;have X:=zH N;have H1:=zH h1;have H2:=zH h2;have D1:=zH d1;have D2:=zH d2;have R:=zH (show i0.bytes*(l1.length+l2.length)<=281474976710656 by rw[O];omega);have S:=zH (show l1.length+l2.length<=maxLen by unfold maxLen;omega);clear hi c N O h1 h2 d1 d2;go_enter func247,ntmps247;go_wp2_with (refine wpList_make_full w rfl (.tmp 16) (.tmp 16) 138 rfl w.heap.size 183 i0 (.int .u32 0) 1 underlying138 HI.o W.o X.o .i64 .i64 (l1.length+l2.length) (l1.length+l2.length) (l1.length+l2.length) rfl rfl U3 U3 R.o S.o zn ?_;intro w1 q J)
 have T:zK (RelTo w l1 l2 0 (List.replicate (l1.length+l2.length) 0) w1):=⟨U2,rep_lt _,fun j _=>by simp[List.getD,List.getElem?_replicate];split<;>rfl,RowW.of_make q,qaL J,by
  have:val BB (List.replicate (l1.length+l2.length) 0)=0:=by
   generalize l1.length+l2.length=n
   induction n with
   |zero=>rfl
   |succ n ih=>rw[List.replicate_succ,val,ih];rfl
  rw[this,List.take_zero]
  exact(Nat.zero_mul _).symm⟩
 clear q J;go_loopw [20] (fun v20 wr=>∃(i:Nat)(L:LN),i<=l1.length/\v20=Y (i:Int)/\RelTo w l1 l2 i L wr) (fun v20 _=>l1.length-(intOf v20).toNat);case atStart=>exact⟨0,_,U0,rfl,T.o⟩
 case round =>
  obtain⟨i,L,af,rfl,m,hd,f,b,p,g⟩:=hrel;by_cases ab:i<l1.length
  . obtain ⟨ba,oa,rfl,ah,ya⟩ := (H1.out.keep p).at_ (k := i) ab;have hx:=qfJ D1.out dc i;(have I:zK (val BB (l1.take (i+1))*val BB l2=val BB L+BB ^ i*(l1.getD i 0*val BB l2)):=by show _=_;rw [qfC BB l1 i,Nat.add_mul,g,Nat.mul_assoc]);generalize l1.getD i 0=x at *;obtain ⟨Q,t⟩:∃ Q,Q=val BB L:=⟨_,rfl⟩;rw [<- t] at I;unfold BB at hx;have E:zK (RelTi w l1 l2 i x Q 0 (.int .u64 0) L wr):=⟨0,U0,rfl,m,hd,f,b,p,by rw [t,List.take_zero,Nat.mul_zero];rfl⟩;clear m hd f b p g T t;go_wp2_with fail;clear ya;generalize wr=wo at *;go_loopw [8,27] (fun v8 v27 wr=>∃ (j:Nat)(L:LN),j<=l2.length/\v27=Y (j:Int)/\RelTi w l1 l2 i x Q j v8 L wr) (fun _ v27 _=>l2.length-(intOf v27).toNat);case atStart=>exact ⟨0,_,U0,rfl,E.o⟩
    case round =>
     obtain⟨j,M,ag,rfl,h,ae,rfl,m,hd,f,b,p,g⟩:=hrel;have P:=zH m;have D:=zH hd;have B:=zH b;have C:=zH p;have A:=zH g;have V:=zH f;have fr:=b.frozen (i+j);clear hd b p g f E;by_cases aa:j<l2.length
     . obtain⟨bb,ob,rfl,ai,yb⟩:=(H2.out.keep C.o).at_ (k:=j) aa;have yr:=B.o.cell (j:=i+j) U0;have hy:=qfJ D2.out dc j;have hz:=qfJ D.o dc (i+j);have l:=fun s K=>times_step (s:=s) (by rw[P.o];omega) rfl rfl A.o K;have r:=zH (fun v=>set_zero (k:=i+j) (x:=v) U0 V.o);clear m A;generalize l2.getD j 0=y at *;generalize M.getD (i+j) 0=z at *;unfold BB at hy hz;obtain⟨m1,m0⟩:=mul_le hx hy;obtain⟨s,K⟩:∃s:Nat,s=x*y+z+h:=⟨_,rfl⟩;have l:=zH (l s K);(have es:(x:Int)*(y:Int)+(z:Int)+(h:Int)=(s:Int):=by rw[K];simp);obtain⟨u,hu⟩:∃u,u=s % BB:=⟨_,rfl⟩;obtain⟨v,g⟩:∃v,v=s / BB:=⟨_,rfl⟩;rw[<- hu,<- g] at l;unfold BB at hu g;(have ex:IntKind.u32.wrap (s:Int)=(u:Int):=by rw[IntKind.wrap_u32];omega);have ey:(s:Int) / 4294967296=(v:Int):=U0;have ad:v<4294967296:=U0;(have ac:u<BB:=by unfold BB;omega);clear hu g K;go_wp2;go_roundw;case rel=>exact⟨j+1,M.set (i+j) u,U0,U3,v,ad,rfl,by rw[List.length_set,P.o],set_lt D.o ac,r.o u,B.o.set (i+j) u,C.o.setCell zn _,l.o⟩
       case measure=>simp[intOf];omega
     . (obtain rfl : j = l2.length:=by omega);have yr:=B.o.cell (j:=i+l2.length) U0;have c:=V.o (i+l2.length) zn;rw[c] at yr;have ex:IntKind.u32.wrap (h:Int)=(h:Int):=IntWalk.u32_in _ U0;(have Z:h<BB:=by unfold BB;omega);(have U:zK (val BB (M.set (i+l2.length) h)=val BB (l1.take (i+1))*val BB l2):=by have h1:=val_set BB M (i+l2.length) h (by rw[P.o];omega);have h2:=A.o;rw[c,Nat.mul_zero,Nat.add_zero] at h1;rw[List.take_length] at h2;show _=_;rw[h1,h2,I.o]);have r:zK (∀j,i+1+l2.length<=j->(M.set (i+l2.length) h).getD j 0=0):=set_zero U0 fun j hj=>V.o j U0;clear m A c;go_wp2;go_roundw;case rel=>exact⟨i+1,M.set (i+l2.length) h,U0,U3,by rw[List.length_set,P.o],set_lt D.o Z,r.o,B.o.set _ h,C.o.setCell zn _,U.o⟩
       case measure=>simp[intOf];omega
  . (obtain rfl:i=l1.length:=by omega);have H:=zH (short_c (zO w.heap.size) L (l1.length+l2.length) wr b.words U0 U0);rw[m] at H;have B:=zH b;have C:=zH p;have D:=zH hd;have A:=zH g;clear m hd f b p g T;go_wp2_with fail;refine H.o.mono ?_;rintro e w' ⟨rfl,rfl⟩;go_wp2;go_ret;refine⟨_,rfl,?_,C.o⟩;have e:=A.o;rw[List.take_length] at e;rw[<- e];exact B.o.nat D.o
def prd:LN->Nat
 |[]=>1
 |x :: l=>x*prd l
theorem prd_app:∀ a b:LN,prd (a++b)=prd a*prd b
 |[],b=>(Nat.one_mul _).symm
 |x :: a,b=>by
   show x*prd (a++b)=x*prd a*prd b
   rw[prd_app a b,Nat.mul_assoc]
theorem prd_take_succ(l:LN)(k:Nat)(b:k<l.length):prd (l.take (k+1))=prd (l.take k)*l.getD k 0:=by rw[List.take_add_one,prd_app];simp[List.getD,b,prd]
theorem one_word{w:Wo}{x:Nat}:WordsAt (w.alloc (.cells #[.int .u32 (x:Int)] 183)) (w.alloc (.cells #[.int .u32 (x:Int)] 183)).heap.size (zO w.heap.size) [x]:=fun _=>⟨w.heap.size,0,rfl,U2,fun j hj=>by
 have b:(w.alloc (.cells #[.int .u32 (x:Int)] 183)).heap[w.heap.size]?=some (.cells #[.int .u32 (x:Int)] 183 (0,0)):=heap_alloc_new _ _
 match j,hj with
 |0,_=>exact cell_of_row _ _ 0 _ _ _ b⟩
theorem one_nat{w:Wo}{x:Nat}(h:x<BB)(g:x≠0):NatV (w.alloc (.cells #[.int .u32 (x:Int)] 183)) w.heap.size (zS w.heap.size 1 1) x:=by refine⟨_,[x],1,rfl,Nat.le_refl _,⟨fun d hd=>by rw[List.mem_singleton.1 hd];exact h,fun _=>g⟩,by show x+BB*0=x;omega,fun hz=>?_⟩;obtain⟨b,o,e,c,f⟩:=one_word (w:=w) (x:=x) hz;injection e with e;injection e with e1 e2;subst e1;exact⟨_,o,by rw[<- e2],Nat.le_refl _,c,f⟩
def RelMu(w:Wo)(Ns:LN)(v3 v9:Value)(wr:Wo):Prop:=
 ∃k:Nat,k<=Ns.length/\v9=Y (k:Int)/\NatV wr w.heap.size v3 (prd (Ns.take k))/\zB w wr
theorem natMul_c(A:OA)(Ns:LN)(c:Nat)(w:Wo)(hA:NatsAt w A Ns)(hs:∀ N∈Ns,N<LIM)(hp:∀ k,prd (Ns.take k)<LIM)(hl:Ns.length<=1000000):
 zC 231 #[zL A Ns.length c] w (NatR (prd Ns) w):=by
 have m:zK (zB w (w.alloc (.cells #[.int .u32 ((1:Nat):Int)] 183))):=zV.alloc zn _;have E:=zH hA;have V:=zH hs;have z:=zH hp;have R:zK (RelMu w Ns (zS w.heap.size 1 1) (Y 0) (w.alloc (.cells #[.int .u32 ((1:Nat):Int)] 183))):=⟨0,U0,rfl,by rw[List.take_zero];exact one_nat dc dc,m.o⟩;clear hA hs hp m;go_enter func231,ntmps231;go_wp2;go_loopw [3,9] (fun v3 v9 wr=>RelMu w Ns v3 v9 wr) (fun _ v9 _=>Ns.length-(intOf v9).toNat);case atStart=>exact R.o
 case round =>
  obtain⟨k,Z,rfl,B,i⟩:=hrel;have f:=zH i;obtain⟨Q,C,c1,rfl,L,l,O,S⟩:=B;have n1:C.length<=200:=qfQ l (by rw[O];exact z.o k);have n:=zH l;have r:=zH O;have s:=zH S;clear i l O S R;by_cases h:k<Ns.length
  . obtain ⟨b,o,rfl,K,d⟩ := E.o U0;obtain ⟨v,u,D,x,c2,rfl,M,g,P,T⟩:=d k h;have y:wr.cell? (zA b (o+k))=some (zL D x.length c2):=(f.o.cell (p:=(zA b (o+k))) K).trans u;have H:=zH (prd_take_succ Ns k h)
    have n2:x.length<=200:=qfQ g (by
     rw[P]
     have:Ns.getD k 0=Ns[k]:=by simp[List.getD,h]
     rw[this]
     exact V.o _ (List.getElem_mem h))
    have t:zK (WordsAt wr wr.heap.size D x):=(T.words.keep f.o).more f.o.size;have q:=zH (qfN t.o U0 M g);have z:=zH (times_c Q D C x c1 x.length wr s.o.words t.o n.o.1 g.1 U0 U0);have J:=zH P;clear d u g P T E;go_wp2_with fail;refine q.o.mono ?_;rintro e w' ⟨rfl,rfl⟩;clear q;go_wp2_with fail;refine z.o.mono ?_;rintro e w' ⟨v,rfl,B,i⟩;have X:=zH B;have j:=zH (f.o.trans (i.mono f.o.size));have I:=zH f.o.size;clear B i z y;go_wp2;go_roundw;case rel=>refine⟨k+1,U0,U3,?_,j.o⟩;rw[H.o,<- r.o,<- J.o];exact X.o.low I.o
    case measure=>simp[intOf];omega
  . (obtain rfl:k=Ns.length:=by omega);have W:=zH (trim_c Q C c1 wr s.o.words U0 L);clear E;go_wp2_with fail;refine W.o.mono ?_;rintro e w' ⟨v,rfl,ho,i⟩;have U:=zH ho;have j:=zH (f.o.trans (i.mono f.o.size));clear ho i;go_wp2;go_ret;refine⟨_,rfl,?_,j.o⟩;(have e:prd Ns=val BB C:=by rw[r.o,List.take_length]);rw[e];exact(U.o.nat n.o.1).low f.o.size
theorem set_drop(l:LN)(k x:Nat):(l.set k x).drop (k+1)=l.drop (k+1):=by apply List.ext_getElem?;intro i;simp[List.getElem?_set_ne (show k≠k+1+i by omega)]
theorem digit_step{k b r s x:Nat}{a L:LN}(g:k<a.length)(f:k<L.length)(j:x=a.getD k 0)(i:val BB (a.drop (k+1))=b*val BB (L.drop (k+1))+r)(h:s=r*BB+x):val BB (a.drop k)=b*val BB ((L.set k (s / b)).drop k)+s % b:=by
 rw[qfU BB a k g,qfU BB (L.set k (s / b)) k (by simpa using f),set_drop,set_getD f,i,<- j,Nat.mul_add,Nat.mul_add];have c:=Nat.div_add_mod s b;have d:b*(BB*val BB (L.drop (k+1)))=BB*(b*val BB (L.drop (k+1))):=by rw[<- Nat.mul_assoc,Nat.mul_comm b,Nat.mul_assoc]
 rw[Nat.mul_comm r] at h;omega
def RelDi(w:Wo)(a:LN)(b k:Nat)(v7:Value)(L:LN)(wr:Wo):Prop:=
 ∃r:Nat,r<b/\v7=.int .u64 (r:Int)/\L.length=a.length/\(∀d∈L,d<BB)/\RowW wr w.heap.size w.heap.size a.length L/\zB w wr/\val BB (a.drop k)=b*val BB (L.drop k)+r
theorem or_limb{r x:Nat}(c:x<4294967296):(r*4294967296) ||| x=r*4294967296+x:=by have h:=Nat.shiftLeft_add_eq_or_of_lt (i:=32) (a:=r) (b:=x) c;rw[Nat.shiftLeft_eq] at h;exact h.symm
theorem digit_c(A:OA)(a:LN)(c b:Nat)(w:Wo)(h1:WordsAt w w.heap.size A a)(d1:∀ d∈a,d<BB)(n1:a.length<=100000)(ab:0<b)(hb:b<4294967296):
 zC 209 #[zL A a.length c,.int .u32 (b:Int)] w fun e w'=>∃v,e=.returned (.tuple #[v,.int .u32 ((val BB a % b:Nat):Int)])/\NatV w' w.heap.size v (val BB a / b)/\zB w w':=by
 obtain⟨U,Q,y,B,C⟩:=qaF infoWord;have X:=zH Q;have I:=zH y;have J:=zH B;have W:=zH h1;have V:=zH d1;have D:=zH (show U.bytes*a.length<=281474976710656 by rw[C];omega);have E:=zH (show a.length<=maxLen by unfold maxLen;omega);clear Q y B C h1 d1;go_enter func209,ntmps209;go_wp2_with (refine wpList_make_full w rfl (.tmp 10) (.tmp 10) 138 rfl w.heap.size 183 U (.int .u32 0) 1 underlying138 X.o I.o J.o .i64 .i64 a.length a.length a.length rfl rfl rfl rfl D.o E.o zn ?_;intro w1 f q);have P:zK (RelDi w a b a.length (.int .u64 0) (List.replicate a.length 0) w1):=⟨0,ab,rfl,U2,rep_lt _,RowW.of_make f,qaL q,by rw[List.drop_length,List.drop_of_length_le U2];rfl⟩;clear f q;go_loopw [7,8] (fun v7 v8 wr=>∃(k:Nat)(L:LN),k<=a.length/\v8=Y ((k:Int)-1)/\RelDi w a b k v7 L wr) (fun _ v8 _=>(intOf v8+1).toNat);case atStart=>exact⟨a.length,_,U0,rfl,P.o⟩
 case round =>
  obtain⟨k,L,hk,rfl,r,R,rfl,K,hd,g,p,S⟩:=hrel;have N:=zH hd;have n:=zH g;have h:=zH p;have H:=zH S;clear hd g p S P;rcases k with _|k
  . have m:=zH (short_c (zO w.heap.size) L a.length wr n.o.words U0 U0);rw[K] at m;(have O:zK (val BB a / b=val BB L/\val BB a % b=r):=by have e:=H.o;rw[List.drop_zero,List.drop_zero] at e;show _/\_;rw[e];exact⟨by rw[Nat.add_comm,Nat.add_mul_div_left _ _ ab,Nat.div_eq_of_lt R,Nat.zero_add],by rw[Nat.mul_add_mod,Nat.mod_eq_of_lt R]⟩);have ex:IntKind.u32.wrap (r:Int)=(r:Int):=IntWalk.u32_in _ U0;clear H K;go_wp2_with fail;refine m.o.mono ?_;rintro e w' ⟨rfl,rfl⟩;go_wp2;go_ret2;rw[O.o.1,O.o.2];refine⟨_,rfl,?_,h.o⟩;exact n.o.nat N.o
  . obtain⟨ba,oa,rfl,aa,ya⟩:=(W.out.keep h.o).at_ (k:=k) U0;have yr:=n.o.cell (j:=k) U0;have fr:=n.o.frozen k;have T:=qfJ V.out dc k;have i:=fun s l=>digit_step (s:=s) (x:=a.getD k 0) U0 U0 rfl H.o l;have Z:((k+1:Nat):Int)-1=(k:Int):=U0;rw[Z];generalize a.getD k 0=x at *;generalize L.getD k 0=z at *;unfold BB at T;obtain⟨s,l⟩:∃s:Nat,s=r*BB+x:=⟨_,rfl⟩;have i:=zH (i s l);unfold BB at l;(have es:bits .or .u64 ((r:Int)*4294967296) (x:Int)=(s:Int):=by have e2:(r:Int)*4294967296=((r*4294967296:Nat):Int):=U0;rw[e2,bits_or_u64_nat _ _ U0 U0,or_limb T,l]);have t:s<b*4294967296:=U0;have hq:s / b<4294967296:=Nat.div_lt_of_lt_mul t;have hm:s % b<b:=Nat.mod_lt _ ab;have et:(s:Int).tdiv (b:Int)=((s / b:Nat):Int):=rfl;have em:(s:Int).tmod (b:Int)=((s % b:Nat):Int):=rfl;generalize s / b=u at *;generalize s % b=v at *;(have ew:IntKind.u64.wrap (u:Int) % 4294967296=(u:Int):=by rw[IntKind.wrap_u64];omega);(have M:u<BB:=by unfold BB;omega);clear l t;go_wp2;go_roundw;case rel=>exact⟨k,L.set k u,U0,rfl,v,hm,rfl,by rw[List.length_set,K],set_lt N.o M,n.o.set k u,h.o.setCell zn _,i.o⟩
    case measure=>simp[intOf]
end Go.Proofs.YtflejelbdlelpaaGreat
