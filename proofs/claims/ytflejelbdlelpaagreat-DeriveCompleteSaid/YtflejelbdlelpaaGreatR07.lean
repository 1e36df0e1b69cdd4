/- Parts of the proof. -/
import Derived.Test.YtflejelbdlelpaaGreatR06
set_option maxRecDepth 100000
set_option maxHeartbeats 8000000
namespace Go.Proofs.YtflejelbdlelpaaGreat
open Go.RowKit Pln Go.Proofs.Tryz
structure FT (p m:Nat) (md l:LN):Prop where
 small:Small p m
 tab:Tab (p^m) (mulM p m md) l
def Quiet(v:Value)(w:Wo)(e:Ending)(w':Wo):Prop:=e=.returned v/\∃n,w'=w.drewN n
section
variable {w:Wo} {B gb p m:Nat} {l lg:LN}
theorem GFAt.cells(h:GFAt w B gb p m l lg):∃(_A3:OA)(_n3 _c3 ge ce gl cl:Nat),
 w.cell? (zA gb 0)=some (Y p)/\w.cell? (zA gb 3)=some (Y ((p^m:Nat):Int))/\w.cell? (zA gb 4)=some (zS ge l.length ce)/\w.cell? (zA gb 5)=some (zS gl lg.length cl)/\
 (∀j,j<l.length->w.cell? (zA ge j)=some (Y ((l.getD j 0:Nat):Int)))/\(∀j,j<lg.length->w.cell? (zA gl j)=some (Y ((lg.getD j 0:Nat):Int))):=by
 obtain⟨r,f,q,g,ge,ce,gl,cl,c,i,n⟩:=h;refine⟨f,q,g,ge,ce,gl,cl,cell_of_row _ _ 0 _ _ _ c,cell_of_row _ _ 3 _ _ _ c,cell_of_row _ _ 4 _ _ _ c,cell_of_row _ _ 5 _ _ _ c,fun j hj=>?_,fun j hj=>?_⟩
 . obtain⟨b,o,e,_,d⟩:=i.at_ (k:=j) (by rw[qaA];exact hj);injection e with e;injection e with e1 e2;subst e1 e2;rw[<- qaC,<- d,Nat.zero_add]
 . obtain⟨b,o,e,_,d⟩:=n.at_ (k:=j) (by rw[qaA];exact hj);injection e with e;injection e with e1 e2;subst e1 e2;rw[<- qaC,<- d,Nat.zero_add]
end
theorem is_c(x:Int)(gb p m B:Nat)(l lg:LN)(w:Wo)(d:GFAt w B gb p m l lg):
 zC 187 (Cj gb x) w fun e w'=>e=.returned (.bool (decide (0<=x) && decide (x<((p^m:Nat):Int))))/\w=w':=by
 obtain⟨_,_,_,_,_,_,_,_,c,_,_,_,_⟩:=d.cells;generalize p^m=q at *;by_cases b:0<=x
 . go_enter func187,ntmps187;go_wp2;go_ret;exact⟨qaN (by simp[b]),rfl⟩
 . go_enter func187,ntmps187;go_wp2;go_ret;exact⟨qaN (by rw[decide_eq_false U0];rfl),rfl⟩
theorem in_c(x gb p m B:Nat)(l lg:LN)(w:Wo)(c:GFAt w B gb p m l lg)(d:x<p^m):
 zC 149 (Cj gb x) w fun e w'=>e=.returned (Y x)/\w=w':=by
 have b:zK (zC 187 (Cj gb x) w fun e w'=>e=.returned (.bool true)/\w=w'):=by have:=is_c x gb p m B l lg w c;rw[decide_eq_true (by omega:(0:Int)<=(x:Int)),decide_eq_true (by omega:(x:Int)<((p^m:Nat):Int))] at this;exact this
 clear c d;go_enter func149,ntmps149;go_wp2_with (go_at_call 187;refine b.o.mono ?_;rintro e w' ⟨rfl,rfl⟩);go_ret;exact⟨rfl,rfl⟩
theorem FT.log{p m:Nat}{md l:LN}(h:FT p m md l){x:Nat}(c:x<p^m)(b:x≠0):(logL l (p^m)).getD x 0<p^m-1:=
 (h.tab.log (qaV (by have:=h.small.p1;omega) h.small.m1 md) b c).1
theorem logL_len(l:LN)(q:Nat):(logL l q).length=q:=by unfold logL;rw[qcL,List.length_replicate]
theorem mul_c(x y gb p m B:Nat)(md l:LN)(w:Wo)(hF:FT p m md l)(hG:GFAt w B gb p m l (logL l (p ^ m)))(hx:x<p ^ m)(hy:y<p ^ m):
 zC 137 (Cf gb x y) w (Quiet (Y ((mulT l (logL l (p^m)) (p^m) x y:Nat):Int)) w):=by
 have n:=zH (in_c x gb p m B l _ w hG hx);have s:=zH (in_c y gb p m B l _ w hG hy);have aa:=hF.small.q;have t:=hF.tab.len;have f:=logL_len l (p^m);have i:=zH<|fun h=>hF.log hx h
 have k:=zH<|fun h=>hF.log hy h
 have Z:=(qaV (p:=p) (m:=m) (by have:=hF.small.p1;omega) hF.small.m1 md).q1;obtain⟨_,_,_,ge,ce,gl,cl,_,M,H,I,N,J⟩:=hG.cells;rw[t] at H;rw[f] at I;have c:=zH (J x (by rw[f];exact hx));have d:=zH (J y (by rw[f];exact hy));have D:=zH<|fun j hj=>N j (by rw[t];exact hj)
 clear N J t f hF hG;generalize logL l (p^m)=u at *;generalize p^m=q at *;by_cases b:x=0
 . (have A:zK (mulT l u q x y=0):=by show _=_;unfold mulT;rw[if_pos (.inl b)]);(have C:((x:Int)==0)=true:=by simp;exact b);clear b D i k c d M H I;go_enter func137,ntmps137;go_wp2_with (first|(go_at_call 149;go_fit n.o;rintro e w' ⟨rfl,rfl⟩)|(go_at_call 149;go_fit s.o;rintro e w' ⟨rfl,rfl⟩));go_ret;exact⟨qaG (by rw[A.o];rfl),0,rfl⟩
 . by_cases g : y = 0
   . (have A:zK (mulT l u q x y=0):=by show _=_;unfold mulT;rw[if_pos (.inr g)]);(have C:((x:Int)==0)=false:=by simp;exact b);(have L:((y:Int)==0)=true:=by simp;exact g);clear g b D i k c d M H I;go_enter func137,ntmps137;go_wp2_with (first|(go_at_call 149;go_fit n.o;rintro e w' ⟨rfl,rfl⟩)|(go_at_call 149;go_fit s.o;rintro e w' ⟨rfl,rfl⟩));go_ret;exact⟨qaG (by rw[A.o];rfl),0,rfl⟩
   . (have A:zK (mulT l u q x y=l.getD ((u.getD x 0+u.getD y 0) % (q-1)) 0):=by show _=_;unfold mulT;rw[if_neg];rintro(h|h)<;>contradiction);(have C:((x:Int)==0)=false:=by simp;exact b);(have L:((y:Int)==0)=false:=by simp;exact g);have W:=i.o b;have X:=k.o g;have U:=c.o;have V:=d.o;clear i k c d b g;generalize u.getD x 0=v at *;generalize u.getD y 0=z at *;have K:(v+z) % (q-1)<q-1:=Nat.mod_lt _ U0;have T:=D.o _ K;(have E:zK (Int.tmod ((v:Int)+(z:Int)) ((q:Int)-1)=(((v+z) % (q-1):Nat):Int)):=by show _=_;rw[<- qaY,Int.natCast_add,Int.natCast_sub U0];rfl);clear D;generalize (v+z) % (q-1)=r at *;generalize l.getD r 0=ab at *;have j1:(0:Int)<=(x:Int):=U0;have j2:(x:Int)<(q:Int):=U0;have j3:(0:Int)<=(y:Int):=U0;have j4:(y:Int)<(q:Int):=U0;have j5:(0:Int)<=(r:Int):=U0;have j6:(r:Int)<((q-1:Nat):Int):=U0;have j7:¬(q:Int)-1=0:=U0;have O:zK (IntKind.i64.wrap ((v:Int)+(z:Int))=(v:Int)+(z:Int)):=IntWalk.i64_in _ U0;have P:zK (IntKind.i64.wrap ((q:Int)-1)=(q:Int)-1):=IntWalk.i64_in _ U0;go_enter func137,ntmps137;go_upto_region 4 with(first|(go_at_call 149;go_fit n.o;rintro e w' ⟨rfl,rfl⟩)|(go_at_call 149;go_fit s.o;rintro e w' ⟨rfl,rfl⟩));have Q:=O.o;have R:=P.o;have S:=E.o;go_quiet (fail);clear Q R S;go_wp2;go_ret;exact⟨qaG (by rw[A.o]),nq,rfl⟩
theorem inv_c(x gb p m B:Nat)(md l:LN)(w:Wo)(Z:FT p m md l)(hG:GFAt w B gb p m l (logL l (p^m)))(hx:x<p^m)(X:x≠0):
 zC 96 (Cj gb x) w (Quiet (.tuple #[Y ((invT l (logL l (p^m)) (p^m) x:Nat):Int),Y 0]) w):=by
 have f:=zH (in_c x gb p m B l _ w hG hx);have K:=Z.small.q;have c:=Z.tab.len;have b:=logL_len l (p^m);have I:=Z.log hx X;have J:=(qaV (p:=p) (m:=m) (by have:=Z.small.p1;omega) Z.small.m1 md).q1;obtain⟨_,_,_,P,N,Q,O,_,R,C,D,n,s⟩:=hG.cells;rw[c] at C;rw[b] at D;have H:=s x (by rw[b];exact hx);have k:=zH<|fun j hj=>n j (by rw[c];exact hj)
 have v:zK (invT l (logL l (p^m)) (p^m) x=l.getD ((p^m-1-(logL l (p^m)).getD x 0) % (p^m-1)) 0):=rfl;clear n s c b Z hG;generalize logL l (p^m)=M at *;generalize p^m=q at *;have L:((x:Int)==0)=false:=by simp;exact X
 clear X;generalize M.getD x 0=d at *;have h:(q-1-d) % (q-1)<q-1:=Nat.mod_lt _ U0;have E:=k.o _ h;have g:zK (Int.tmod ((q:Int)-1-(d:Int)) ((q:Int)-1)=(((q-1-d) % (q-1):Nat):Int)):=by show _=_;rw[<- qaY,Int.natCast_sub U0,Int.natCast_sub U0];rfl
 clear k;generalize (q-1-d) % (q-1)=r at *;generalize l.getD r 0=i at *;have S:(0:Int)<=(x:Int):=U0;have T:(x:Int)<(q:Int):=U0;have U:(0:Int)<=(r:Int):=U0;have V:(r:Int)<((q-1:Nat):Int):=U0;have W:¬(q:Int)-1=0:=U0;have t:zK (IntKind.i64.wrap ((q:Int)-1-(d:Int))=(q:Int)-1-(d:Int)):=IntWalk.i64_in _ U0;have u:zK (IntKind.i64.wrap ((q:Int)-1)=(q:Int)-1):=IntWalk.i64_in _ U0;go_enter func96,ntmps96;go_upto_region 4 with(go_at_call 149;go_fit f.o;rintro e w' ⟨rfl,rfl⟩);have y:=t.o;have z:=u.o;have A:=g.o;go_quiet (fail);clear y z A;go_wp2;go_ret2;exact⟨by show Ending.returned (.tuple #[Y (i:Int),Y 0])=_;rw[v.o],nq,rfl⟩
structure Mid (p m N k s pl:Nat) (rest:Nat):Prop where
 sum:s+pl*rest=N
 place:pl*p^k=p^m
theorem Mid.bounds{p m N k s pl rest:Nat}(h:Mid p m N k s pl rest)(f:N<p^m)(i:p^m<=256)(g:1<=p):s<=256/\pl<=256:=by have b:=h.sum;have c:=h.place;have d:pl<=pl*p^k:=Nat.le_mul_of_pos_right _ (Nat.pow_pos U0);omega
theorem Mid.step{p m N k s pl d rest:Nat}(h:Mid p m N (k+1) s pl (d+p*rest)):Mid p m N k (s+d*pl) (pl*p) rest:=by
 refine⟨?_,?_⟩
 . rw[<- h.sum,Nat.mul_add,Nat.mul_comm d pl,<- Nat.mul_assoc,Nat.add_assoc]
 . rw[<- h.place,Nat.pow_succ,Nat.mul_comm (p^k) p,Nat.mul_assoc]
theorem Mid.dpl{p m N k s pl d rest:Nat}(h:Mid p m N (k+1) s pl (d+p*rest))(i:N<p^m)(n:p^m<=256)(j:1<=p):(d:Int)*(pl:Int)<=256/\0<=(d:Int)*(pl:Int)/\(pl:Int)*(p:Int)<=256/\0<=(pl:Int)*(p:Int)/\(s:Int)+(d:Int)*(pl:Int)<=256:=by obtain⟨b,c⟩:=h.step.bounds i n j;have f:((d*pl:Nat):Int)=(d:Int)*(pl:Int):=Int.natCast_mul _ _;have g:((pl*p:Nat):Int)=(pl:Int)*(p:Int):=Int.natCast_mul _ _;omega
def RelNeg(w:Wo)(p m N g:Nat)(v1 v5 v6:Value)(wr:Wo):Prop:=
 ∃x s pl:Nat,v1=Y x/\v5=Y s/\v6=Y pl/\x<p^g/\Mid p m N g s pl (negD p g x)/\∃n,wr=w.drewN n
theorem neg_c(x gb p m B:Nat)(l lg:LN)(w:Wo)(hs:Small p m)(hG:GFAt w B gb p m l lg)(hx:x<p ^ m):
 zC 127 (Cj gb x) w (Quiet (Y ((negD p m x:Nat):Int)) w):=by
 have j:=zH (in_c x gb p m B l _ w hG hx);obtain⟨U,V,R,S,W⟩:=hs;obtain⟨_,_,_,_,_,_,_,v,_,_,_,_,_⟩:=hG.cells;have J:zK (negD p m x<p^m):=qdP U0 m x;have q:zK (Mid p m (negD p m x) m 0 1 (negD p m x)):=⟨U0,U0⟩;have H:=zH v;clear hG v;go_enter func127,ntmps127;go_wp2_with (go_at_call 149;go_fit j.o;rintro e w' ⟨rfl,rfl⟩);go_loopg [1,5,6] m (fun g v1 v5 v6 wr=>RelNeg w p m (negD p m x) g v1 v5 v6 wr);case atStart=>exact⟨x,0,1,rfl,rfl,rfl,hx,q.o,0,rfl⟩
 case round =>
  obtain⟨y,s,pl,rfl,rfl,rfl,A,f,n,rfl⟩:=hrel;have b:=zH f;have c0:=H.out;clear f;by_cases X:0<y
  . rcases gk with _|k
    . simp at A;omega
    . have i : zK (negD p (k + 1) y = (p - y % p) % p + p * negD p k (y / p)) := rfl;have c:=zH b.o;rw [i.o] at c;(have u:y / p<p ^ k:=by rw [Nat.div_lt_iff_lt_mul U0];rwa [Nat.pow_succ] at A);obtain ⟨b1,b2,b3,b4,b5⟩:=c.o.dpl J.o W U0;have t:=zH c.o.step;have Z:y<=256:=by
       have h1:p ^ (k+1)<=p ^ m:=by
        have Q:=c.o.place
        have h3:p ^ (k+1)<=pl*p ^ (k+1):=Nat.le_mul_of_pos_left _ (by
         rcases Nat.eq_zero_or_pos pl with h|h
         . rw[h,Nat.zero_mul] at Q
           have:0<p^m:=Nat.pow_pos U0
           omega
         . exact h)
        omega
       omega
      have aa:y % p<p:=Nat.mod_lt _ U0;(have K:=zH<|qaY y p);have M:zK (((y / p:Nat):Int)=(y:Int) / (p:Int)):=rfl;clear b c i;generalize y % p=r at *;(have L:zK (Int.tmod ((p:Int)-(r:Int)) (p:Int)=(((p-r) % p:Nat):Int)):=by show _=_;rw[<- qaY,Int.natCast_sub U0]);generalize (p-r) % p=d at *;have T:¬(p:Int)=0:=U0;have z:¬p=0:=U0;have C:zK (IntKind.i64.wrap ((p:Int)-(r:Int))=(p:Int)-(r:Int)):=IntWalk.i64_in _ U0;have D:zK (IntKind.i64.wrap ((d:Int)*(pl:Int))=(d:Int)*(pl:Int)):=IntWalk.i64_in _ U0;have E:zK (IntKind.i64.wrap ((s:Int)+(d:Int)*(pl:Int))=(s:Int)+(d:Int)*(pl:Int)):=IntWalk.i64_in _ U0;go_upto_region 4 with fail;have t1:=K.out;have t2:=L.out;have N:=C.o;have O:=D.o;have P:=E.o;go_quiet (fail);clear t1 t2 N O P;have q0:0<=(y:Int) / (p:Int):=Int.ediv_nonneg U0 U0;have q1:(y:Int) / (p:Int)<=(y:Int):=Int.ediv_le_self _ U0;go_wp2_with fail;go_roundg k;case measure=>omega
      case rel=>exact⟨y / p,s+d*pl,pl*p,by rw[M.out],by rw[Int.natCast_add,Int.natCast_mul],by rw[Int.natCast_mul],u,t.o,n+nq,rfl⟩
  . (obtain rfl:y=0:=by omega);(have I:zK (s=negD p m x):=by show _=_;have:=b.o.sum;rw[negD_zero] at this;omega);go_wp2;go_ret;exact⟨qaG (by rw[I.o]),n,rfl⟩
theorem bits_xor(x y:Nat)(f:x<=256)(g:y<=256):bits .xor .i64 (x:Int) (y:Int)=((x ^^^ y:Nat):Int):=by
 have d:x ^^^ y<2^9:=Nat.xor_lt_two_pow U0 U0;have b:BitVec.ofInt 64 (x:Int)=BitVec.ofNat 64 x:=BitVec.ofInt_natCast _ _;have c:BitVec.ofInt 64 (y:Int)=BitVec.ofNat 64 y:=BitVec.ofInt_natCast _ _;have e:(BitVec.ofInt 64 (x:Int) ^^^ BitVec.ofInt 64 (y:Int)).toNat=x ^^^ y:=by rw[b,c,BitVec.toNat_xor,BitVec.toNat_ofNat,BitVec.toNat_ofNat,Nat.mod_eq_of_lt U0,Nat.mod_eq_of_lt U0]
 show IntKind.i64.wrap (((BitVec.ofInt 64 (x:Int) ^^^ BitVec.ofInt 64 (y:Int)).toNat:Nat):Int)=_;rw[e];exact IntWalk.i64_in _ U0
def RelAdd(w:Wo)(p m N g:Nat)(v1 v2 v7 v8:Value)(wr:Wo):Prop:=
 ∃x y s pl:Nat,v1=Y x/\v2=Y y/\v7=Y s/\v8=Y pl/\x<p^g/\y<p^g/\Mid p m N g s pl (addD p g x y)/\∃n,wr=w.drewN n
theorem pow_le_of_mid{p m N k s pl rest:Nat}(h:Mid p m N k s pl rest)(d:1<=p):p ^ k<=p ^ m:=by
 have b:=h.place
 have c:p ^ k<=pl*p ^ k:=Nat.le_mul_of_pos_left _ (by
  rcases Nat.eq_zero_or_pos pl with h|h
  . rw[h,Nat.zero_mul] at b
    have:0<p^m:=Nat.pow_pos U0
    omega
  . exact h)
 omega
theorem add_2(x y gb m B:Nat)(l lg:LN)(w:Wo)(t:Small 2 m)(q:GFAt w B gb 2 m l lg)(r:x<2^m)(s:y<2^m):
 zC 138 (Cf gb x y) w (Quiet (Y ((addD 2 m x y:Nat):Int)) w):=by have b:=zH (in_c x gb 2 m B l _ w q r);have c:=zH (in_c y gb 2 m B l _ w q s);obtain⟨j,k,h,i,p⟩:=t;obtain⟨_,_,_,_,_,_,_,n,_,_,_,_,_⟩:=q.cells;have g:=zH (xor_addD m x y r s);have d:x<=256:=U0;have f:y<=256:=U0;clear q;go_enter func138,ntmps138;go_wp2_with (first|(go_at_call 149;go_fit b.o;rintro e w' ⟨rfl,rfl⟩)|(go_at_call 149;go_fit c.o;rintro e w' ⟨rfl,rfl⟩));go_ret;exact⟨qaG (by rw[bits_xor x y d f,g.o]),0,rfl⟩
theorem add_n(x y gb p m B:Nat)(l lg:LN)(w:Wo)(hs:Small p m)(an:p≠2)(hG:GFAt w B gb p m l lg)(hx:x<p ^ m)(hy:y<p ^ m):
 zC 138 (Cf gb x y) w (Quiet (Y ((addD p m x y:Nat):Int)) w):=by
 have v:=zH (in_c x gb p m B l _ w hG hx);have z:=zH (in_c y gb p m B l _ w hG hy);obtain⟨aj,ak,ag,ah,hq⟩:=hs;obtain⟨_,_,_,_,_,_,_,T,_,_,_,_,_⟩:=hG.cells;have HN:zK (addD p m x y<p^m):=qdR U0 m x y;have A:zK (Mid p m (addD p m x y) m 0 1 (addD p m x y)):=⟨U0,U0⟩;have H:((p:Int)==2)=false:=so;have X:=zH T;clear hG an;go_enter func138,ntmps138;go_wp2_with (first|(go_at_call 149;go_fit v.o;rintro e w' ⟨rfl,rfl⟩)|(go_at_call 149;go_fit z.o;rintro e w' ⟨rfl,rfl⟩));clear T H;go_loopg [1,2,7,8] m (fun g v1 v2 v7 v8 wr=>RelAdd w p m (addD p m x y) g v1 v2 v7 v8 wr);case atStart=>exact⟨x,y,0,1,rfl,rfl,rfl,rfl,hx,hy,A.o,0,rfl⟩
 case round =>
  obtain⟨a,b,s,pl,rfl,rfl,rfl,rfl,U,V,f,n,rfl⟩:=hrel;have c:=zH f;have c0:=X.out;have al:=pow_le_of_mid f (by omega:1<=p);have ab:a<=256:=U0;have ae:b<=256:=U0;clear f;by_cases hz:a=0/\b=0
  . obtain⟨rfl,rfl⟩:=hz;(have Z:zK (s=addD p m x y):=by show _=_;have:=c.o.sum;rw[addD_zero] at this;omega);go_wp2;go_ret;exact⟨qaG (by rw[Z.o]),n,rfl⟩
  . rcases gk with _|k
    . simp at U V;omega
    . have i : zK (addD p (k + 1) a b = (a % p + b % p) % p + p * addD p k (a / p) (b / p)) := rfl;have h:=zH c.o;rw [i.o] at h;(have q:a / p<p ^ k:=by rw [Nat.div_lt_iff_lt_mul U0];rwa [Nat.pow_succ] at U);(have r:b / p<p ^ k:=by rw [Nat.div_lt_iff_lt_mul U0];rwa [Nat.pow_succ] at V);obtain ⟨b1,b2,b3,b4,b5⟩:=h.o.dpl HN.o hq U0;have j:=zH h.o.step;have ac:a % p<p:=Nat.mod_lt _ U0;have af:b % p<p:=Nat.mod_lt _ U0;(have O:=zH<|qaY a p);(have P:=zH<|qaY b p);have R:zK (((a / p:Nat):Int)=(a:Int) / (p:Int)):=rfl;have S:zK (((b / p:Nat):Int)=(b:Int) / (p:Int)):=rfl;clear c h i;generalize a % p=t at *;generalize b % p=u at *;(have Q:zK (Int.tmod ((t:Int)+(u:Int)) (p:Int)=(((t+u) % p:Nat):Int)):=by show _=_;rw [<- qaY,Int.natCast_add]);generalize (t+u) % p=d at *;have ai:¬ (p:Int)=0:=U0;have W:¬ p=0:=U0;have L:zK (IntKind.i64.wrap ((t:Int)+(u:Int))=(t:Int)+(u:Int)):=IntWalk.i64_in _ U0;have M:zK (IntKind.i64.wrap ((d:Int)*(pl:Int))=(d:Int)*(pl:Int)):=IntWalk.i64_in _ U0;have N:zK (IntKind.i64.wrap ((s:Int)+(d:Int)*(pl:Int))=(s:Int)+(d:Int)*(pl:Int)):=IntWalk.i64_in _ U0;have q0:0<=(a:Int) / (p:Int):=Int.ediv_nonneg U0 U0;have q1:(a:Int) / (p:Int)<=(a:Int):=Int.ediv_le_self _ U0;have q2:0<=(b:Int) / (p:Int):=Int.ediv_nonneg U0 U0;have q3:(b:Int) / (p:Int)<=(b:Int):=Int.ediv_le_self _ U0;by_cases aa:0<a
      . go_upto_region 6 with fail;have I:=O.out;have J:=P.out;have K:=Q.out;have C:=L.o;have D:=M.o;have E:=N.o;go_quiet (fail);clear I J K C D E;go_wp2_with fail;go_roundg k;case measure=>omega
        case rel=>exact⟨a / p,b / p,s+d*pl,pl*p,by rw[R.out],by rw[S.out],by rw[Int.natCast_add,Int.natCast_mul],by rw[Int.natCast_mul],q,r,j.o,n+nq,rfl⟩
      . (have ad : 0 < b:=by omega);go_upto_region 6 with fail;have I:=O.out;have J:=P.out;have K:=Q.out;have C:=L.o;have D:=M.o;have E:=N.o;go_quiet (fail);clear I J K C D E;go_wp2_with fail;go_roundg k;case measure=>omega
        case rel=>exact⟨a / p,b / p,s+d*pl,pl*p,by rw[R.out],by rw[S.out],by rw[Int.natCast_add,Int.natCast_mul],by rw[Int.natCast_mul],q,r,j.o,n+nq,rfl⟩
theorem add_c(x y gb p m B:Nat)(l lg:LN)(w:Wo)(c:Small p m)(b:GFAt w B gb p m l lg)(d:x<p^m)(f:y<p^m):
 zC 138 (Cf gb x y) w (Quiet (Y ((addD p m x y:Nat):Int)) w):=by
 by_cases h:p=2
 . subst h;exact add_2 x y gb m B l lg w c b d f
 . exact add_n x y gb p m B l lg w c h b d f
def opsT(p m:Nat)(l:LN):Ops:=⟨addD p m,mulT l (logL l (p^m)) (p^m),negD p m,invT l (logL l (p^m)) (p^m)⟩
theorem mulT_lt{p m:Nat}{md l:LN}(h:FT p m md l){x y:Nat}(b:x<p^m)(c:y<p^m):mulT l (logL l (p^m)) (p^m) x y<p^m:=by have H:=qaV (p:=p) (m:=m) (by have:=h.small.p1;omega) h.small.m1 md;rw[h.tab.mul_eq H b c];exact H.lt x y
def scK(f:Nat->Nat)(v:LN)(k:Nat):LN:=(v.take k).map f++List.replicate (v.length-k) 0
theorem scK_len(f:Nat->Nat)(v:LN)(k:Nat)(b:k<=v.length):(scK f v k).length=v.length:=by simp[scK];omega
theorem scK_set(f:Nat->Nat)(v:LN)(k:Nat)(c:k<v.length):(scK f v k).set k (f (v.getD k 0))=scK f v (k+1):=by unfold scK;have b:((v.take k).map f).length=k:=so;rw[List.set_append_right _ _ U0,b,Nat.sub_self,show v.length-k=(v.length-(k+1))+1 by omega,List.replicate_succ,List.set_cons_zero,List.take_succ_eq_append_getElem c,List.map_append,List.append_assoc];simp[List.getD,c]
def RelSc(w:Wo)(f:Nat->Nat)(v:LN)(v15:Value)(wr:Wo):Prop:=
 ∃k:Nat,k<=v.length/\v15=Y k/\Row wr w.heap.size w.heap.size v.length (nz (scK f v k))/\zB w wr
theorem scale_c(a gb p m:Nat)(md l v:LN)(A:OA)(c:Nat)(w:Wo)(hF:FT p m md l)(hG:GFAt w w.heap.size gb p m l (logL l (p ^ m)))(ha:a<p ^ m)(hv:∀ x∈v,x<p ^ m)(Z:zI w A (nz v))(hl:v.length<=1000):
 zC 69 #[zP gb,Y a,zL A v.length c] w fun e w'=>e=.returned (zS w.heap.size v.length v.length)/\Row w' w.heap.size w.heap.size v.length (nz (scaleRow (opsT p m l) a v))/\zB w w':=by
 obtain⟨N,M,r,s,t⟩:=qaF infoInt;have Q:=zH M;have I:=zH r;have J:=zH s;have C:=zH (show N.bytes*v.length<=281474976710656 by rw[t];omega);have D:=zH (show v.length<=maxLen by unfold maxLen;omega);have O:=zH Z
 have P:zK (∀x W,x<p^m->zB w W->zC 137 (Cf gb a x) W (Quiet (Y ((mulT l (logL l (p^m)) (p^m) a x:Nat):Int)) W)):=
  fun x W hx z=>mul_c a x gb p m w.heap.size md l W hF (hG.keep z) ha hx
 have R:zK (∀k,k<v.length->v.getD k 0<p^m):=fun k B=>by
  have:v.getD k 0=v[k]:=by simp[List.getD,B]
  rw[this];exact hv _ (List.getElem_mem B)
 have E:zK (scaleRow (opsT p m l) a v=v.map (mulT l (logL l (p^m)) (p^m) a)):=rfl;clear M r s t Z hF hG hv;generalize mulT l (logL l (p^m)) (p^m) a=f at *;generalize p^m=q at *;go_enter func69,ntmps69;go_wp2_with (refine wpList_make_full w rfl (.tmp 11) (.tmp 11) 22 rfl w.heap.size 3 N (Y 0) 1 underlying22 Q.o I.o J.o .i64 .i64 v.length v.length v.length rfl rfl rfl rfl C.o D.o zn ?_;intro U g i);have L:zK (RelSc w f v (zN 0) U):=⟨0,U0,rfl,by have:=Row.of_make g;exact this,qaL i⟩;clear g i;go_loopw [15] (fun v15 wr=>RelSc w f v v15 wr) (fun v15 _=>v.length-(intOf v15).toNat);case atStart=>exact L.o
 case round =>
  obtain⟨k,B,rfl,h,z⟩:=hrel;have y:=zH h;have u:=zH z;clear h z L;by_cases d:k<v.length
  . obtain⟨b,o,rfl,S,T⟩:=(O.o.keep u.o).at_ (k:=k) (by rw[qaA];exact d);rw[qaC] at T;have K:=R.o k d;have H:=zH (scK_set f v k d);have V:=y.o.frozen k;have c0:=y.o.cell (j:=k) (by rw[qaA,scK_len f v k B];exact d);generalize v.getD k 0=x at *;go_wp2_with fail;(with_reducible refine(P.o x wr K u.o).mono ?_);rintro e X ⟨rfl,n,rfl⟩;go_wp2;go_roundw;case rel=>refine⟨k+1,U0,U3,?_,(qaB u.o n).setCell (p:=(zA w.heap.size k)) zn _⟩;rw[<- H.o,<- qbC];exact Row.set (w:=wr.drewN n) y.o k _
    case measure=>simp[intOf];omega
  . (obtain rfl:k=v.length:=by omega);go_wp2;go_ret;refine⟨rfl,?_,u.o⟩;have:=y.o;unfold scK at this;rw[Nat.sub_self,List.replicate_zero,List.append_nil,List.take_length] at this;rw[E.o];exact this
theorem sclone_c(zs:LI)(A:OA)(c:Nat)(w:Wo)(L:zI w A zs)(M:0<zs.length)(N:zs.length<=1000000):
 zC 68 #[zL A zs.length c] w fun e w'=>(∃g c',e=.returned (zS g zs.length c')/\Row w' w.heap.size g c' zs)/\zB w w':=by
 obtain⟨K,y,i,l,m⟩:=qaF infoInt;obtain⟨b,o,rfl,H,I⟩:=L M;have D:=zH y;have q:=zH i;have r:=zH l;have s:=zH m;have p:zK ((w.alloc (.cells #[] 3)).ownsRow w.heap.size 3 1 (zS w.heap.size 0 0) 0 []):=World.ownsRow_made w #[] 0 zn ml rfl;have f:zK (∀(j:Nat)(u:Value),(zs.map (Value.int .i64))[j]?=some u->(w.alloc (.cells #[] 3)).cell? ((⟨b,o,none⟩:Addr).add j)=some u):=(L.keep (zV.alloc zn _)).news;clear y i l m L I;have v:∀(W:Wo)(a:OA)(n c n' c':Nat),(binOp .eql 22 (zL a n c) (zL none n' c')).run prog W=.ok (.bool a.isNone) W:=fun W a n c n' c'=>Lib.run_eql_slice_nil W 22 3 a n c n' c' underlying22;go_enter func68,ntmps68;go_wp2_with (at_builtin;refine wpList_append_lies _ rfl (.tmp 5) (.tmp 6) 22 rfl w.heap.size 3 K _ 1 8 underlying22 D.o q.o r.o s.o rfl dc (zS w.heap.size 0 0) 0 [] rfl p.o (zA b o) zs.length c (zs.map (Value.int .i64)) rfl ?c0 f.o ?c2 M ?c3 ?c4 ?c5 _ rfl ?_);case c0=>simp
 case c2=>intro u J;obtain⟨z,_,rfl⟩:=List.mem_map.1 J;rfl
 case c3=>unfold maxLen;omega
 case c4=>omega
 case c5=>simp
 intro g cap B d h t x;have E:zK (Row B w.heap.size g cap zs):=by show B.ownsRow _ _ _ _ _ _;exact d
 have C:=zH<|(zV.alloc zn _).grown h U2 (fun k hk=>by simp[Value.ownBlock] at hk;omega)
 clear d h t x v;go_wp2;go_ret;exact⟨⟨g,cap,rfl,E.o⟩,C.o⟩
def adK(O:Ops)(v:LN)(a:Nat)(u:LN)(k:Nat):LN:=addRow O (v.take k) a (u.take k)++v.drop k
theorem qbU(O:Ops)(v:LN)(a:Nat)(u:LN)(h:v.length=u.length):(addRow O v a u).length=v.length:=by unfold addRow;rw[List.length_zipWith,h,Nat.min_self]
theorem adK_len(O:Ops)(v:LN)(a:Nat)(u:LN)(k:Nat)(h:v.length=u.length)(b:k<=v.length):(adK O v a u k).length=v.length:=by unfold adK;rw[List.length_append,qbU _ _ _ _ (by rw[List.length_take,List.length_take,h]),List.length_take,List.length_drop];omega
theorem adK_at(O:Ops)(v:LN)(a:Nat)(u:LN)(k:Nat)(h:v.length=u.length)(c:k<v.length):(adK O v a u k).getD k 0=v.getD k 0:=by
 unfold adK;have b:(addRow O (v.take k) a (u.take k)).length=k:=by rw[qbU _ _ _ _ (by rw[List.length_take,List.length_take,h]),List.length_take];omega
 simp only[List.getD];rw[List.getElem?_append_right U0,b,Nat.sub_self,List.getElem?_drop,Nat.add_zero]
theorem adK_set(O:Ops)(v:LN)(a:Nat)(u:LN)(k:Nat)(h:v.length=u.length)(f:k<v.length):
 (adK O v a u k).set k (if u.getD k 0=0 then v.getD k 0 else O.add (v.getD k 0) (O.mul a (u.getD k 0)))=adK O v a u (k+1):=by
 unfold adK;have d:(addRow O (v.take k) a (u.take k)).length=k:=by rw[qbU _ _ _ _ (by rw[List.length_take,List.length_take,h]),List.length_take];omega
 rw[List.set_append_right _ _ U0,d,Nat.sub_self,List.drop_eq_getElem_cons f,List.set_cons_zero];rw[List.take_succ_eq_append_getElem f,List.take_succ_eq_append_getElem (l:=u) U0];unfold addRow;rw[List.zipWith_append (by rw[List.length_take,List.length_take,h])];have b:v.getD k 0=v[k]:=by simp[List.getD,f]
 have c:u.getD k 0=u[k]:=by simp[List.getD,show k<u.length by omega]
 rw[b,c];simp
theorem adK_skip(O:Ops)(v:LN)(a:Nat)(u:LN)(k:Nat)(h:v.length=u.length)(f:k<v.length)(g:u.getD k 0=0):adK O v a u (k+1)=adK O v a u k:=by
 rw[<- adK_set O v a u k h f,if_pos g,<- adK_at O v a u k h f];apply List.ext_getElem
 . simp
 . intro i d c;rw[List.getElem_set];split
   . rename_i hik;subst hik;have b:=c;simp[List.getD,b]
   . rfl
theorem adK_end(O:Ops)(v:LN)(a:Nat)(u:LN)(h:v.length=u.length):adK O v a u v.length=addRow O v a u:=by unfold adK;rw[List.take_length,List.drop_length,List.append_nil,List.take_of_length_le U0]
def SDrew(wr W:Wo):Prop:=∃n,W=wr.drewN n
def RelAd(w:Wo)(B gv cv:Nat)(O:Ops)(v:LN)(a:Nat)(u:LN)(v12:Value)(wr:Wo):Prop:=
 ∃k:Nat,k<=v.length/\v12=Y k/\Row wr B gv cv (nz (adK O v a u k))/\w.grownBy wr (some gv)
theorem qfX{w c d:Wo}{g:Nat}(h:w.grownBy c (some g))(b:c.grownBy d (some g)):w.grownBy d (some g):=
 ⟨b.os.trans h.os,b.tape.trans h.tape,b.output.trans h.output,Nat.le_trans h.size b.size,fun k hk hne=>(b.block k (Nat.lt_of_lt_of_le hk h.size) hne).trans (h.block k hk hne)⟩
theorem qgA(w:Wo)(n:Nat)(row:Option Nat):w.grownBy (w.drewN n) row:=⟨rfl,rfl,rfl,Nat.le_refl _,fun _ _ _=>rfl⟩
theorem qeR(w:Wo)(p:Addr)(u:Value):w.grownBy (w.setCell p u) (some p.block):=⟨rfl,rfl,rfl,U2,fun k _ hne=>Below.heap_setCell w p u k (fun e=>hne (by rw[e]))⟩
theorem qbB{w w':Wo}{g:Nat}(h:w.grownBy w' (some g))(b:g<=w.heap.size):Below g w w':=⟨h.os,h.tape,h.output,h.size,fun k hk=>h.block k U0 (fun e=>by injection e with e;omega)⟩
theorem madd_u(a gb p m Bg B gv cv cu:Nat)(Au:OA)(md l v u:LN)(w:Wo)(hF:FT p m md l)(hG:GFAt w Bg gb p m l (logL l (p ^ m)))(ac:Bg<=gv)(ha:a<p ^ m)(hv:∀ x∈v,x<p ^ m)(hu:∀ x∈u,x<p ^ m)(ab:Row w B gv cv (nz v))(ad:∀ W,w.grownBy W (some gv)->∀ k,k<u.length->∃ bu ou:Nat,Au=some (zA bu ou)/\W.cell? (zA bu (ou+k))=some (Y ((u.getD k 0:Nat):Int)))(aa:v.length=u.length)(hl:v.length<=1000):
 zC 224 #[zP gb,zS gv v.length cv,Y a,zL Au v.length cu] w fun e w'=>e=.returned (.tuple #[])/\Row w' B gv cv (nz (addRow (opsT p m l) v a u))/\w.grownBy w' (some gv):=by
 have g:=ab.lt.2
 have P:zK (∀x W,x<p^m->w.grownBy W (some gv)->zC 137 (Cf gb a x) W (Quiet (Y (((opsT p m l).mul a x:Nat):Int)) W)):=
  fun x W hx hb=>mul_c a x gb p m Bg md l W hF (hG.keep ((qbB hb (Nat.le_of_lt g)).mono ac)) ha hx
 have Q:zK (∀x y W,x<p^m->y<p^m->w.grownBy W (some gv)->zC 138 (Cf gb x y) W (Quiet (Y (((opsT p m l).add x y:Nat):Int)) W)):=
  fun x y W hx hy hb=>add_c x y gb p m Bg l _ W hF.small (hG.keep ((qbB hb (Nat.le_of_lt g)).mono ac)) hx hy
 have H:zK (∀x,x<p^m->(opsT p m l).mul a x<p^m):=fun x hx=>mulT_lt hF ha hx;have U:zK (∀k,k<v.length->v.getD k 0<p^m):=fun k A=>by
  have:v.getD k 0=v[k]:=by simp[List.getD,A]
  rw[this];exact hv _ (List.getElem_mem A)
 have T:zK (∀k,k<v.length->u.getD k 0<p^m):=fun k A=>by
  have C:k<u.length:=U0;have:u.getD k 0=u[k]:=by simp[List.getD,C]
  rw[this];exact hu _ (List.getElem_mem C)
 have J:=zH ad;have N:zK (RelAd w B gv cv (opsT p m l) v a u (Y ((0:Nat):Int)) w):=⟨0,U0,rfl,by simpa[adK,addRow] using ab,World.grownBy.refl _ _⟩;have b:=zH aa;clear hF hG hv hu ab ad aa;generalize opsT p m l=O at *;generalize p^m=q at *;go_enter func224,ntmps224;go_wp2;go_loopw [12] (fun v12 wr=>RelAd w B gv cv O v a u v12 wr) (fun v12 _=>v.length-(intOf v12).toNat);case atStart=>exact N.o
 case round =>
  obtain⟨k,A,rfl,h,t⟩:=hrel;have j:=zH h;have i:=zH t;clear h t N;by_cases d:k<v.length
  . obtain ⟨bu,ou,rfl,X⟩ := J.o wr i.o k (by rw [<- b.o];exact d);(have y1:wr.cell? (zA gv k)=some (Y ((v.getD k 0:Nat):Int)):=by rw [<- adK_at O v a u k b.o d,<- qaC];exact j.o.cell (by rw [qaA,adK_len O v a u k b.o A];exact d));have Z:=j.o.frozen k;have f:=zH (adK_set O v a u k b.o d);have c:=zH (adK_skip O v a u k b.o d);have D:=T.o k d;have L:=U.o k d;have k0:(0:Int)<=(k:Int):=U0;have k1:(k:Int)<(v.length:Int):=U0;by_cases r:u.getD k 0=0
    . have R:=zH (c.o r);rw[r] at X;clear f c r;go_wp2;go_roundw;case rel=>exact⟨k+1,U0,U3,by rw[R.o];exact j.o,i.o⟩
      case measure=>simp[intOf];omega
    . rw [if_neg r] at f;clear c;generalize u.getD k 0=x at *;generalize v.getD k 0=y at *;(have V:((x:Int) != 0)=true:=by simpa using r);have M:¬ (x:Int)=0:=U0;(have S:zK (∀ W,SDrew wr W->zC 137 (Cf gb a x) W fun e w'=>e=.returned (Y ((O.mul a x:Nat):Int))/\SDrew wr w'):=fun W ⟨n,hW⟩=>by subst hW;refine (P.o x _ D (qfX i.o (qgA wr n _))).mono ?_;rintro e w' ⟨he,k,rfl⟩;exact ⟨he,n+k,U9⟩);have I:=H.o x D;(have E:zK (∀ W,SDrew wr W->zC 138 (Cf gb y ((O.mul a x:Nat):Int)) W fun e w'=>e=.returned (Y ((O.add y (O.mul a x):Nat):Int))/\SDrew wr w'):=fun W ⟨n,hW⟩=>by subst hW;refine (Q.o y _ _ L I (qfX i.o (qgA wr n _))).mono ?_;rintro e w' ⟨he,k,rfl⟩;exact ⟨he,n+k,U9⟩);clear M;go_upto_region 4 with fail;refine qaI 13 (SDrew wr) U1 U1 ⟨1,rfl⟩ ?_;simp only [List.take_succ_cons,List.take_zero,List.drop_succ_cons,List.drop_zero]
      repeat (first
       | (apply qaJ rfl
          . intro W s
            obtain⟨n,rfl⟩:=s
            go_simp
            rfl
          go_simp)
       | (apply qaO rfl
          . intro W s
            go_simp
            exact⟨rfl,rfl⟩
          . intro W s
            first
             |exact S.o W s
             |exact E.o W s
          go_simp))
      refine qaE ?_;intro w2 K;obtain⟨n,rfl⟩:=K;generalize O.add y (O.mul a x)=z at *;go_wp2;go_roundw;case rel=>refine⟨k+1,U0,U3,?_,qfX (qfX i.o (qgA wr n _)) (qeR _ (zA gv k) _)⟩;rw[<- f.o,<- qbC];exact Row.set (w:=wr.drewN n) j.o k _
      case measure=>simp[intOf];omega
  . (obtain rfl:k=v.length:=by omega);go_wp2_with fail;go_end0;refine⟨rfl,?_,i.o⟩;rw[<- adK_end O v a u b.o];exact j.o
theorem madd_c(a gb p m Bg B b cv c cu:Nat)(md l v u:LN)(w:Wo)(n:FT p m md l)(o:GFAt w Bg gb p m l (logL l (p^m)))(f:Bg<=b)(q:a<p^m)(t:∀x∈v,x<p^m)(s:∀x∈u,x<p^m)(i:Row w B b cv (nz v))(h:Row w B c cu (nz u))(g:c≠b)(d:v.length=u.length)(r:v.length<=1000):
 zC 224 #[zP gb,zS b v.length cv,Y a,zS c v.length cu] w fun e w'=>e=.returned (.tuple #[])/\Row w' B b cv (nz (addRow (opsT p m l) v a u))/\w.grownBy w' (some b):=
 madd_u a gb p m Bg B b cv cu (zO c) md l v u w n o f q t s i (fun W hW k hk=>⟨c,0,rfl,by
  have:=(h.grown hW (by simp;exact g)).cell (j:=k) (by rw[qaA];exact hk)
  rw[qaC] at this
  rw[Nat.zero_add]
  exact this⟩) d r
theorem infoInts:(prog.info? 22).map (fun i=>(i.zero,i.size,i.bytes))=some (some (zL none 0 0),1,24):=U1
def bk(bs:List (Nat × Nat))(i:Nat):Nat:=(bs.getD i (0,0)).1
def cp(bs:List (Nat × Nat))(i:Nat):Nat:=(bs.getD i (0,0)).2
def hdr(rows:LL)(bs:List (Nat × Nat))(i:Nat):Value:=zS (bk bs i) (rows.getD i []).length (cp bs i)
def hdrs(rows:LL)(bs:List (Nat × Nat)):List Value:=(List.range rows.length).map (hdr rows bs)
structure GridAt (w:Wo) (B R cR:Nat) (rows:LL) (bs:List (Nat × Nat)):Prop where
 len:bs.length=rows.length
 out:w.ownsRow B 22 1 (zS R rows.length cR) rows.length (hdrs rows bs)
 row:∀i,i<rows.length->Row w B (bk bs i) (cp bs i) (nz (rows.getD i []))
 nd:∀i j,i<rows.length->j<rows.length->i≠j->bk bs i≠bk bs j
section
variable {w w':Wo} {B R cR:Nat} {rows:LL} {bs:List (Nat × Nat)}
theorem GridAt.cell(h:GridAt w B R cR rows bs){i:Nat}(b:i<rows.length):w.cell? (zA R i)=some (zS (bk bs i) (rows.getD i []).length (cp bs i)):=by rw[World.ownsRow.cellAt h.out i U0];simp[hdrs,b,hdr]
theorem GridAt.frozen(h:GridAt w B R cR rows bs)(i:Nat):w.frozen? (zA R i)=false:=World.ownsRow.frozenAt h.out i
theorem GridAt.lt(h:GridAt w B R cR rows bs):B<=R/\R<w.heap.size:=World.ownsRow.lt h.out R rfl
theorem qdE{e:TypeId}{n c:Nat}{xs:List Value}(h:w.ownsRow B e 1 (zS R n c) n xs):∃cur,w.heap[R]?=some (.cells cur e (0,0)):=by
 rcases h.2 with⟨d,_⟩|⟨g,cap,cur,b,_,f,_⟩
 . cases d
 . simp only[Value.slice.injEq,Option.some.injEq,Addr.mk.injEq,and_true,true_and] at b;obtain⟨rfl,_⟩:=b;exact⟨cur,f⟩
theorem qfL{e:TypeId}{n c:Nat}{xs:List Value}(h:w.ownsRow B e 1 (zS R n c) n xs)(j:w'.heap[R]?=w.heap[R]?):w'.ownsRow B e 1 (zS R n c) n xs:=by
 refine⟨h.1,?_⟩;rcases h.2 with⟨f,_⟩|⟨g,cap,cur,b,i,d,r⟩
 . cases f
 . (have:g=R:=by simp only[Value.slice.injEq,Option.some.injEq,Addr.mk.injEq,and_true,true_and] at b;exact b.1.symm);exact .inr ⟨g,cap,cur,b,i,by rw[this] at d ⊢;exact j.trans d,r⟩
theorem GridAt.ne(h:GridAt w B R cR rows bs){B' g c:Nat}{zs:LI}(f:Row w B' g c zs):g≠R:=by rintro rfl;obtain⟨c1,d⟩:=qdE h.out;obtain⟨c2,b⟩:=qdE (e:=3) f;rw[d] at b;injection b with b;injection b with _ ht;exact absurd ht dc
theorem GridAt.of_blocks(h:GridAt w B R cR rows bs)(c:∀k,B<=k->k<w.heap.size->w'.heap[k]?=w.heap[k]?):GridAt w' B R cR rows bs:=by refine⟨h.len,qfL h.out (c R h.lt.1 h.lt.2),fun i hi=>?_,h.nd⟩;have b:=h.row i hi;exact qfL b (c _ b.lt.1 b.lt.2)
theorem GridAt.grow(h:GridAt w B R cR rows bs)(b:zB w w'):GridAt w' B R cR rows bs:=h.of_blocks fun k _ hk=>b.block k hk
theorem GridAt.drewN(h:GridAt w B R cR rows bs)(n:Nat):GridAt (w.drewN n) B R cR rows bs:=h.of_blocks fun _ _ _=>rfl
theorem GridAt.else_(h:GridAt w B R cR rows bs){p:Addr}(b:R≠p.block)(c:∀i,i<rows.length->bk bs i≠p.block)(u:Value):GridAt (w.setCell p u) B R cR rows bs:=by refine⟨h.len,qfL h.out (Below.heap_setCell w p u R b),fun i hi=>(h.row i hi).far (c i hi) u,h.nd⟩
theorem qeW{α:Type}(l:List α)(i j:Nat)(x d:α)(b:i<l.length):(l.set i x).getD j d=if j=i then x else l.getD j d:=by
 by_cases h:j=i
 . subst h;simp[List.getD,b]
 . rw[if_neg h];simp only[List.getD];rw[List.getElem?_set_ne U0]
theorem hdrs_set(rows:LL)(bs:List (Nat × Nat))(k:bs.length=rows.length)(i:Nat)(h:i<rows.length)(r:LN)(b:Nat × Nat):
 hdrs (rows.set i r) (bs.set i b)=(hdrs rows bs).set i (zS b.1 r.length b.2):=by
 apply List.ext_getElem
 . simp[hdrs]
 . intro j d f;(have g:j<rows.length:=by simpa[hdrs] using d);rw[List.getElem_set];simp only[hdrs,List.getElem_map,List.getElem_range,hdr,bk,cp,qeW _ _ _ _ _ h,qeW bs i j b (0,0) U0];by_cases c:i=j
   . subst c;simp
   . rw[if_neg (fun e=>c e.symm),if_neg (fun e=>c e.symm),if_neg c]
theorem GridAt.put(h:GridAt w B R cR rows bs){i:Nat}(l:i<rows.length){g c:Nat}{r:LN}(n:Row w B g c (nz r))(m:∀ j,j<rows.length->bk bs j≠g):
 GridAt (w.setCell (zA R i) (zS g r.length c)) B R cR (rows.set i r) (bs.set i (g,c)):=by
 refine⟨by simp[h.len],?_,fun j hj=>?_,fun j k hj hk hjk=>?_⟩
 . rw[hdrs_set rows bs h.len i l r (g,c),List.length_set];exact(World.ownsRow.stored h.out i _).1
 . rw[List.length_set] at hj;unfold bk cp;rw[qeW _ _ _ _ _ l,qeW bs i j (g,c) (0,0) (by rw[h.len];exact l)];by_cases b:j=i
   . subst b;rw[if_pos rfl,if_pos rfl];exact n.far (p:=(zA R j)) (h.ne n) _
   . rw[if_neg b,if_neg b];exact(h.row j hj).far (p:=(zA R i)) (h.ne (h.row j hj)) _
 . rw [List.length_set] at hj hk;unfold bk;rw [qeW bs i j (g,c) (0,0) (by rw [h.len];exact l),qeW bs i k (g,c) (0,0) (by rw [h.len];exact l)];by_cases d:j=i
   . rw[if_pos d,if_neg U0];exact fun e=>m k hk e.symm
   . rw[if_neg d];by_cases f:k=i
     . rw[if_pos f];exact m j hj
     . rw[if_neg f];exact h.nd j k hj hk hjk
theorem GridAt.turn(h:GridAt w B R cR rows bs){i:Nat}(d:i<rows.length){r:LN}(g:r.length=(rows.getD i []).length)(l:Row w' B (bk bs i) (cp bs i) (nz r))(f:w.grownBy w' (some (bk bs i))):
 GridAt w' B R cR (rows.set i r) bs:=by
 have c:=h.ne (h.row i d);refine⟨by simp[h.len],?_,fun j hj=>?_,fun j k hj hk hjk=>h.nd j k (by simpa using hj) (by simpa using hk) hjk⟩
 . have e : hdrs (rows.set i r) bs = hdrs rows bs := by
    unfold hdrs;rw[List.length_set];apply List.map_congr_left;intro j _;unfold hdr;rw[qeW _ _ _ _ _ d];by_cases b:j=i
    . subst b;rw[if_pos rfl,g]
    . rw[if_neg b]
   rw[e,List.length_set];exact qfL h.out (f.block R h.lt.2 (fun e=>c (by injection e with e;exact e.symm)))
 . rw[List.length_set] at hj;rw[qeW _ _ _ _ _ d];by_cases b:j=i
   . subst b;rw[if_pos rfl];exact l
   . rw[if_neg b];exact(h.row j hj).grown f (fun e=>h.nd j i hj d b (by injection e))
end
def RowsAt(w:Wo)(B:Nat)(A:OA)(zs:List LI):Prop:=
 0<zs.length->∃b o,A=some (zA b o)/\b<B/\∀i,i<zs.length->∃(Ai:OA)(ci:Nat),w.cell? (zA b (o+i))=some (zL Ai (zs.getD i []).length ci)/\IntsAt w B Ai (zs.getD i [])
abbrev zR(w:World)(A:OA)(l:List LI):Prop:=RowsAt w w.heap.size A l
theorem RowsAt.keep{w w':Wo}{B:Nat}{A:OA}{zs:List LI}(h:RowsAt w B A zs)(l:Below B w w'):RowsAt w' B A zs:=fun hz=>by
 obtain⟨b,o,e,c,k⟩:=h hz
 refine⟨b,o,e,c,fun i hi=>?_⟩
 obtain⟨d,f,g,j⟩:=k i hi
 exact⟨d,f,(l.cell (p:=(zA b (o+i))) c).trans g,j.keep l⟩
theorem RowsAt.more{w:Wo}{B B':Nat}{A:OA}{zs:List LI}(h:RowsAt w B A zs)(l:B<=B'):RowsAt w B' A zs:=fun hz=>by
 obtain⟨b,o,e,k,j⟩:=h hz
 refine⟨b,o,e,U0,fun i hi=>?_⟩
 obtain⟨c,d,f,g⟩:=j i hi
 exact⟨c,d,f,g.more l⟩
theorem RowsAt.at_{w:Wo}{B:Nat}{A:OA}{zs:List LI}(h:RowsAt w B A zs){i:Nat}(j:i<zs.length):∃b o Ai ci,A=some (zA b o)/\b<B/\w.cell? (zA b (o+i))=some (zL Ai (zs.getD i []).length ci)/\IntsAt w B Ai (zs.getD i []):=by obtain⟨b,o,e,c,g⟩:=h U0;obtain⟨Ai,ci,d,f⟩:=g i j;exact⟨b,o,Ai,ci,e,c,d,f⟩
def nzs(rows:LL):List LI:=rows.map nz
theorem nzs_len(rows:LL):(nzs rows).length=rows.length:=by simp[nzs]
theorem nzs_getD(rows:LL)(i:Nat):(nzs rows).getD i []=nz (rows.getD i []):=by unfold nzs;simp only[List.getD,List.getElem?_map];cases rows[i]?<;>rfl
structure PGrid (w:Wo) (B R:Nat) (rows:LL) (bs:List (Nat × Nat)) (k:Nat):Prop where
 len:bs.length=k
 le:k<=rows.length
 out:w.ownsRow B 22 1 (zS R rows.length rows.length) rows.length ((List.range k).map (hdr rows bs)++List.replicate (rows.length-k) (zL none 0 0))
 row:∀i,i<k->Row w B (bk bs i) (cp bs i) (nz (rows.getD i []))
 nd:∀i j,i<k->j<k->i≠j->bk bs i≠bk bs j
theorem getD_snoc_lt{α:Type}{l:List α}{x d:α}{i:Nat}(b:i<l.length):(l++[x]).getD i d=l.getD i d:=by simp only[List.getD];rw[List.getElem?_append_left b]
theorem qeO{α:Type}(l:List α)(x d:α):(l++[x]).getD l.length d=x:=by simp[List.getD]
theorem PGrid.step{w y:Wo}{B R:Nat}{rows:LL}{x:List (Nat × Nat)}{k g c:Nat}(h:PGrid w B R rows x k)(D:k<rows.length)(z:zB w y)(_:B<=w.heap.size)(A:Row y w.heap.size g c (nz (rows.getD k []))):
 PGrid (y.setCell (zA R k) (zS g (rows.getD k []).length c)) B R rows (x++[(g,c)]) (k+1):=by
 have u:=World.ownsRow.lt h.out R rfl;have v:=A.lt;have m:g≠R:=U0;refine⟨by simp[h.len],D,?_,fun i n=>?_,fun i j n hj hij=>?_⟩
 . have t := (World.ownsRow.stored (qfL h.out (z.block R u.2)) k (zS g (rows.getD k []).length c)).1
   have e:((List.range k).map (hdr rows x)++List.replicate (rows.length-k) (Value.slice none 0 0)).set k (zS g (rows.getD k []).length c)
    = (List.range (k+1)).map (hdr rows (x++[(g,c)]))++List.replicate (rows.length-(k+1)) (zL none 0 0):=by
    rw[List.set_append_right _ _ U2,List.length_map,List.length_range,Nat.sub_self,show rows.length-k=(rows.length-(k+1))+1 by omega,List.replicate_succ,List.set_cons_zero,List.range_succ,List.map_append,List.append_assoc]
    congr 1
    . apply List.map_congr_left
      intro i n
      have b:=List.mem_range.1 n
      unfold hdr bk cp
      rw[getD_snoc_lt (by rw[h.len];exact b)]
    . simp only[List.map_cons,List.map_nil,List.singleton_append,hdr,bk,cp]
      have:=qeO x (g,c) (0,0)
      rw[h.len] at this
      rw[this]
   rw[<- e];exact t
 . by_cases d : i = k
   . subst d;unfold bk cp;have:=qeO x (g,c) (0,0);rw[h.len] at this;rw[this];exact(A.base (B':=B) U0).far (p:=(zA R i)) m _
   . (have b:i<k:=by omega);unfold bk cp;rw[getD_snoc_lt (by rw[h.len];exact b)];have f:=h.row i b;refine(f.below z f.lt.2).far (p:=(zA R k)) ?_ _;intro e;obtain⟨c1,s⟩:=qdE h.out;obtain⟨c2,l⟩:=qdE (e:=3) f;have r:bk x i=R:=e;rw[r,s] at l;injection l with l;injection l with _ ht;exact absurd ht dc
 . unfold bk;have q:=qeO x (g,c) (0,0);rw [h.len] at q;by_cases d:i=k
   . subst d;rw[q,getD_snoc_lt (i:=j) (by rw[h.len];omega)];have:=(h.row j U0).lt.2;unfold bk at this;omega
   . rw[getD_snoc_lt (i:=i) (by rw[h.len];omega)];by_cases o:j=k
     . subst o;rw[q];have:=(h.row i U0).lt.2;unfold bk at this;omega
     . rw[getD_snoc_lt (i:=j) (by rw[h.len];omega)];exact h.nd i j U0 U0 hij
theorem PGrid.done{w:Wo}{B R:Nat}{rows:LL}{b:List (Nat × Nat)}(h:PGrid w B R rows b rows.length):GridAt w B R rows.length rows b:=by refine⟨h.len,?_,h.row,h.nd⟩;have:=h.out;rw[Nat.sub_self,List.replicate_zero,List.append_nil] at this;exact this
def RelCl(w:Wo)(rows:LL)(v11:Value)(wr:Wo):Prop:=
 ∃k bs,v11=zN k/\PGrid wr w.heap.size w.heap.size rows bs k/\zB w wr
theorem clone_c(rows:LL)(A:OA)(c:Nat)(w:Wo)(hA:zR w A (nzs rows))(hr:∀ r∈rows,0<r.length/\r.length<=1000000)(hl:rows.length<=1000000):
 zC 222 #[zL A rows.length c] w fun e w'=>e=.returned (zS w.heap.size rows.length rows.length)/\(∃bs,GridAt w' w.heap.size w.heap.size rows.length rows bs)/\zB w w':=by
 obtain⟨V,d,x,y,z⟩:=qaF infoInts;have Z:=zH d;have K:=zH x;have L:=zH y;have C:=zH (show V.bytes*rows.length<=281474976710656 by rw[z];omega);have D:=zH (show rows.length<=maxLen by unfold maxLen;omega);have W:=zH hA;have I:zK (∀k,k<rows.length->0<(rows.getD k []).length/\(rows.getD k []).length<=1000000):=fun k N=>by
  have:rows.getD k []=rows[k]:=by simp[List.getD,N]
  rw[this];exact hr _ (List.getElem_mem N)
 clear d x y z hA hr;go_enter func222,ntmps222;go_wp2_with (refine wpList_make_full w rfl (.tmp 7) (.tmp 7) 25 rfl w.heap.size 22 V (zL none 0 0) 1 underlying25 Z.o K.o L.o .i64 .i64 rows.length rows.length rows.length rfl rfl rfl rfl C.o D.o zn ?_;intro t l v);have R:zK (RelCl w rows (zN 0) t):=by
  refine⟨0,[],rfl,⟨rfl,Nat.zero_le _,?_,fun i d=>absurd d U0,fun i j d=>absurd d U0⟩,qaL v⟩;have e:(List.range 0).map (hdr rows [])++List.replicate (rows.length-0) (Value.slice none 0 0)=(madeCells (Value.slice none 0 0).cells (rows.length*1)).toList:=by
   apply List.ext_getElem
   . simp[madeCells]
   . intro i T U;simp[madeCells,Value.cells,Nat.mod_one]
  rw[e];exact l
 clear l v;go_loopw [11] (fun v11 wr=>RelCl w rows v11 wr) (fun v11 _=>rows.length-(intOf v11).toNat);case atStart=>exact R.o
 case round =>
  obtain⟨k,bs,rfl,n,M⟩:=hrel;have s:=zH n;have B:=zH M;have N:=n.le;have q:=M.size;clear n M R;by_cases m:k<rows.length
  . obtain⟨b,o,Q,S,rfl,aa,hc,d⟩:=(W.o.keep B.o).at_ (i:=k) (by rw[nzs_len];exact m);rw[nzs_getD,qaA] at hc;rw[nzs_getD] at d;obtain⟨O,P⟩:=I.o k m;(have X:zK (zC 68 #[zL Q (rows.getD k []).length S] wr fun e w'=>(∃g c',e=.returned (zS g (rows.getD k []).length c')/\Row w' wr.heap.size g c' (nz (rows.getD k [])))/\zB wr w'):=by have h:=sclone_c (nz (rows.getD k [])) Q S wr (d.more q) (by rw[qaA];exact O) (by rw[qaA];exact P);rw[qaA] at h;exact h);have J:zK (∀(t:Wo)(g c:Nat),zB wr t->Row t wr.heap.size g c (nz (rows.getD k []))->PGrid (t.setCell (zA w.heap.size k) (zS g (rows.getD k []).length c)) w.heap.size w.heap.size rows (bs++[(g,c)]) (k+1)):=fun t g c T U=>s.o.step m T q U;have u:=World.ownsRow.lt s.o.out w.heap.size rfl;(have H:=zH<|World.ownsRow.frozenAt s.o.out k);(have E:zK (wr.cell? (zA w.heap.size k)=some (zL none 0 0)):=by show _=_;rw[World.ownsRow.cellAt s.o.out k U0,List.getElem?_append_right U2,List.length_map,List.length_range,Nat.sub_self,List.getElem?_replicate,if_pos U0]);clear d s;generalize rows.getD k []=r at *;go_wp2_with fail;go_fit X.o;rintro e w2 ⟨⟨g,c',rfl,hrow⟩,hb2⟩;have HR:=zH hrow;have f:=zH hb2;have f2:=(hb2.frozen (p:=(zA w.heap.size k)) u.2).trans H.o;have c2:=(hb2.cell (p:=(zA w.heap.size k)) u.2).trans E.o;clear hrow hb2;go_wp2;go_roundw;case rel=>exact⟨k+1,bs++[(g,c')],U3,J.o w2 g c' f.o HR.o,(B.o.trans (f.o.mono q)).setCell (p:=(zA w.heap.size k)) zn _⟩
    case measure=>simp[intOf];omega
  . (obtain rfl:k=rows.length:=by omega);go_wp2;go_ret;exact⟨rfl,⟨bs,s.o.done⟩,B.o⟩
end Go.Proofs.YtflejelbdlelpaaGreat
