/- Parts of the proof. -/
import Derived.Test.YtflejelbdlelpaaGreatR26
import Derived.Test.YtflejelbdlelpaaGreatR29
set_option maxRecDepth 100000
set_option maxHeartbeats 8000000
namespace Go.Proofs.YtflejelbdlelpaaGreat
open Go.RowKit Pln Go.Proofs.Tryz
theorem divMod_c(A1 A2:OA)(W X:LN)(c1 c2:Nat)(w:Wo)(h1:WordsAt w w.heap.size A1 W)(h2:WordsAt w w.heap.size A2 X)(d1:Cn W)(d2:Cn X)(n1:W.length<=100000)(aa:W.length<=c1)(ab:X.length<=c2)(hN:val BB X<BB)(Z:0<val BB X):
 zC 164 #[zL A1 W.length c1,zL A2 X.length c2] w fun e w'=>∃q r,e=.returned (.tuple #[q,r,Y 0])/\NatV w' w.heap.size q (val BB W / val BB X)/\NatV w' w.heap.size r (val BB W % val BB X)/\zB w w':=by
 have h:X.length=1:=by
  have:=cn_len (k:=1) d2 (by rw[Nat.pow_one];exact hN);have:X.length≠0:=fun e=>by rw[List.length_eq_zero_iff.1 e] at Z;exact Nat.lt_irrefl _ Z
  omega
 obtain⟨N,rfl⟩:∃N,X=[N]:=by
  rcases X with _|⟨N,_|⟨y,l⟩⟩
  . simp at h
  . exact⟨N,rfl⟩
  . simp at h
 have i:val BB [N]=N:=by show N+BB*0=N;omega
 rw[i] at hN Z ⊢;obtain⟨z,C,rfl,B,E⟩:=h2.at_ (k:=0) U2;have t:=zH (qfN h1 U0 aa d1);have u:=zH (qfN h2 U2 ab d2);have f:=zH (cmp_c A1 (some (zA z C)) W [N] W.length 1 w h1 h2 d1 d2 n1 U2 zn U2);rw[i] at f;have M:=zH h1;have H:=zH d1;have K:((([N]:LN).getD 0 0:Nat):Int)=(N:Int):=rfl;rw[K,Nat.add_zero] at E;clear h1 h2 d1 d2 h i K;go_enter func164,ntmps164;go_wp2_with fail;refine t.o.mono ?_;rintro e w' ⟨rfl,rfl⟩;go_wp2_with fail;refine u.o.mono ?_;rintro e w' ⟨rfl,rfl⟩;clear t u;go_wp2_with fail;refine f.o.mono ?_;rintro e D ⟨rfl,hb1⟩;have b:=zH hb1;have V:D.cell? (zA z C)=some (.int .u32 (N:Int)):=(hb1.cell (p:=(zA z C)) B).trans E;have j:=zH (M.out.up hb1);clear hb1 E f;by_cases d:val BB W<N
 . (have I : zK (cmpN (val BB W) N = -1):=by show _=_;unfold cmpN;rw[if_pos d]);rw[I.o];have Q:=zH (trim_c A1 W W.length D j.o U0 zn);clear I;go_wp2_with fail;refine Q.o.mono ?_;rintro e L ⟨v,rfl,ho,hb⟩;have O:=zH ho;have c:=zH (b.o.trans (hb.mono b.o.size));clear ho hb;go_wp2_with fail;go_ret3;refine⟨_,_,rfl,?_,?_,c.o⟩
   . rw[Nat.div_eq_of_lt d];exact NatV.zero _ _
   . rw[Nat.mod_eq_of_lt d];exact(O.o.nat H.out.1).low b.o.size
 . obtain ⟨A,x,J⟩ : ∃ A : Int,cmpN (val BB W) N = A /\ ¬ A < 0 := ⟨_,rfl,by
    unfold cmpN
    rw[if_neg d]
    split<;>omega⟩
   rw[x];have g:=zH (digit_c A1 W W.length N D j.o H.out.1 n1 Z hN);have S:val BB W % N<N:=Nat.mod_lt _ Z;obtain⟨r,n⟩:∃r,zK (r=val BB W % N):=⟨_,rfl⟩;rw[<- n.o] at g S;unfold BB at hN;clear d x;go_wp2_with fail;refine g.o.mono ?_;rintro e L ⟨q,rfl,hq,hb⟩;have P:=zH hq;have c:=zH hb;clear g hq hb;have s:=zH (natOf_c r L (by unfold BB;omega));have T:IntKind.u64.wrap (r:Int)=(r:Int):=IntWalk.u64_in _ U0;go_wp2_with fail;refine s.o.mono ?_;rintro e U ⟨v,rfl,i,hb⟩;have R:=zH i;have m:=zH hb;clear i hb s;go_wp2_with fail;go_ret3;exact⟨_,_,rfl,(P.o.grow m.o).low b.o.size,by rw[<- n.o];exact R.o.low (Nat.le_trans b.o.size c.o.size),b.o.trans ((c.o.trans (m.o.mono c.o.size)).mono b.o.size)⟩
theorem len32_c(x:Nat)(w:Wo)(f:0<x)(g:x<256):zC 249 #[.int .u32 (x:Int)] w fun e w'=>(∃y:Nat,e=.returned (Y (y:Int))/\1<=y/\y<=8/\(y=1 ↔ x=1))/\w=w':=by
 have c:¬(65536:Int)<=(x:Int):=U0;have d:¬(256:Int)<=(x:Int):=U0;go_enter func249,ntmps249;go_wp2;go_ret;have b:∀z:UInt8,wrap64 (wrap64 (z.toNat:Int))=((z.toNat:Nat):Int):=fun z=>by have:=z.toNat_lt;unfold wrap64;omega
 refine⟨⟨_,congrArg (fun u=>Ending.returned (Y u)) (b _),?_⟩,rfl⟩;clear b c;revert f;revert d;revert g;revert x;decide +kernel
theorem bits_c(A:OA)(x c:Nat)(w:Wo)(m:WordsAt w w.heap.size A [x])(r:1<=c)(p:0<x)(q:x<256):zC 248 #[zL A 1 c] w fun e w'=>(∃y:Nat,e=.returned (Y (y:Int))/\1<=y/\y<=8/\(y=1 ↔ x=1))/\w=w':=by have i:=zH (qfN (l:=[x]) m U2 r ⟨fun d hd=>by rw[List.mem_singleton.1 hd];unfold BB;omega,fun _=>by show x≠0;omega⟩);have g:=zH (len32_c x w p q);obtain⟨b,o,rfl,j,y⟩:=m.at_ (k:=0) U2;have f:((([x]:LN).getD 0 0:Nat):Int)=(x:Int):=rfl;rw[f,Nat.add_zero] at y;clear m f;go_enter func248,ntmps248;go_wp2_with fail;refine i.o.mono ?_;rintro e w' ⟨rfl,rfl⟩;go_wp2_with fail;refine g.o.mono ?_;rintro e w' ⟨⟨n,rfl,hn1,hn8,hn⟩,rfl⟩;have h:=zH hn;clear hn;go_wp2;go_ret;exact⟨⟨n,rfl,hn1,hn8,h.o⟩,rfl⟩
theorem and_one:∀c:Nat,c<65->bits .and .i64 (c:Int) 1=((c % 2:Nat):Int):=dk
def RelPo(w:Wo)(x n:Nat)(v1 v7 v8:Value)(wr:Wo):Prop:=
 ∃k M S:Nat,0<k/\k<=n/\v1=Y (k:Int)/\NatV wr 0 v7 M/\NatV wr 0 v8 S/\0<M/\0<S/\M*S^k=x^n/\zB w wr
theorem pow_pow2(S k:Nat)(_:0<k):S^k=S^(k % 2)*(S*S)^(k / 2):=by rw[<- Nat.pow_two,<- Nat.pow_mul,<- Nat.pow_add];congr 1;omega
theorem le_of_pow{M S k V:Nat}(f:0<k)(d:0<M)(h:M*S^k=V):S<=V:=by have b:S<=S^k:=Nat.le_self_pow U0 S;have c:S^k<=M*S^k:=Nat.le_mul_of_pos_left _ d;omega
theorem lim_of{x n V:Nat}(i:x<256)(g:n<=64)(h:V<=x^n):V<LIM:=by have b:x^n<=256^n:=Nat.pow_le_pow_left U0 n;have c:256^n<=256^64:=Nat.pow_le_pow_right dc g;have d:(256:Nat)^64<BB^17:=dc;have f:BB^17<=BB^200:=Nat.pow_le_pow_right dc dc;unfold LIM;omega
theorem natPow_c(A:OA)(x c n:Nat)(w:Wo)(hA:WordsAt w w.heap.size A [x])(hc:1<=c)(h0:0<x)(h1:x<256)(hn:n<=64):
 zC 230 #[zL A 1 c,Y (n:Int)] w fun e w'=>∃v,e=.returned (.tuple #[v,Y 0])/\NatV w' w.heap.size v (x^n)/\zB w w':=by
 have L:Cn [x]:=⟨fun d hd=>by rw[List.mem_singleton.1 hd];unfold BB;omega,fun _=>by show x≠0;omega⟩;have HB:=zH (bits_c A x c w hA hc h0 h1);have q:zK (zB w (w.alloc (.cells #[.int .u32 ((1:Nat):Int)] 183))):=zV.alloc zn _;have g:zK (NatV (w.alloc (.cells #[.int .u32 ((1:Nat):Int)] 183)) w.heap.size (zS w.heap.size 1 1) 1):=one_nat dc dc;have C:zK (WordsAt (w.alloc (.cells #[.int .u32 ((1:Nat):Int)] 183)) (w.alloc (.cells #[.int .u32 ((1:Nat):Int)] 183)).heap.size A [x]):=hA.up q.o;have D:=zH (qfN (l:=[x]) C.o U2 hc L)
 have HX:zK (NatV (w.alloc (.cells #[.int .u32 ((1:Nat):Int)] 183)) 0 (zL A 1 1) x):=⟨A,[x],1,rfl,Nat.le_refl _,L,by show x+BB*0=x;omega,fun hz=>by
  obtain⟨b,o,e,h2,h3⟩:=C.o hz
  exact⟨b,o,e,Nat.zero_le _,h2,h3⟩⟩
 clear hA L C;go_enter func230,ntmps230;go_wp2_with fail;refine HB.o.mono ?_;rintro e w' ⟨⟨y,rfl,hy1,hy8,hyx⟩,rfl⟩;have HY:=zH hyx;clear hyx HB;have f:(n=0\/x=1)->x^n=1:=fun h=>by
  rcases h with h|h
  . rw[h,Nat.pow_zero]
  . rw[h,Nat.one_pow]
 by_cases ac:n=0
 . have R:=zH (f (.inl ac));subst ac;clear f D HX;go_wp2;go_ret2;exact⟨_,rfl,by rw[R.o];exact g.o,q.o⟩
 . by_cases hy : y = 1
   . have R:=zH (f (.inr (HY.o.1 hy)));(have aw:((n:Int)==0)=false:=by rw[beq_eq_false_iff_ne];omega);subst hy;clear f D HX;go_wp2;go_ret2;exact⟨_,rfl,by rw[R.o];exact g.o,q.o⟩
   . (have aw : ((n : Int) == 0) = false := by rw [beq_eq_false_iff_ne];omega);(have az:((y:Int)==1)=false:=by rw [beq_eq_false_iff_ne];omega);(have a0:((y:Int)==0)=false:=by rw [beq_eq_false_iff_ne];omega);have ax:¬ (131072<(n:Int)):=U0;(have ab:0<=((y:Int)-1)*(n:Int)/\((y:Int)-1)*(n:Int)<=448:=by have h2:(y-1)*n<=7*64:=Nat.mul_le_mul U0 hn;(have h3:(((y-1)*n:Nat):Int)=((y:Int)-1)*(n:Int):=by rw [Int.natCast_mul];congr 1;omega);omega);have au:decide ((131072:Int)<(n:Int))=false:=decide_eq_false ax;have av:decide ((131072:Int)<=((y:Int)-1)*(n:Int))=false:=decide_eq_false U0;obtain ⟨m0,m1⟩:=ab;have HR:zK (RelPo w x n (Y (n:Int)) (zS w.heap.size 1 1) (zL A 1 1) (w.alloc (.cells #[.int .u32 ((1:Nat):Int)] 183))):=⟨n,1,x,U0,Nat.le_refl _,rfl,g.o.low (Nat.zero_le _),HX.o,U0,h0,Nat.one_mul _,q.o⟩;clear f HX g HY;go_wp2_with fail;refine D.o.mono ?_;rintro e w' ⟨rfl,rfl⟩;clear az a0 au av m0 m1;go_wp2;go_loopw [1,7,8] (fun v1 z v8 wr=>RelPo w x n v1 z v8 wr) (fun v1 _ _ _=>(intOf v1).toNat);case atStart=>exact HR.o
     case round =>
      obtain⟨k,M,S,X,a7,rfl,ay,ae,V,u,hV,p⟩:=hrel;have P:=zH p;have an:=zH ae;obtain⟨AM,lM,cM,rfl,aq,t,vM,wM⟩:=ay;obtain⟨AS,lS,cS,rfl,a5,J,vS,wS⟩:=ae
      have a4:lS.length<=200:=qfQ J (by rw[vS];exact lim_of h1 hn (by
       have:=le_of_pow X V hV
       exact Nat.le_trans this (Nat.pow_le_pow_right h0 U0)))
      have a3:lM.length<=200:=qfQ t (by rw[vM];exact lim_of h1 hn (by
       have h2:0<S^k:=Nat.pow_pos u
       have:M<=M*S^k:=Nat.le_mul_of_pos_right _ h2
       rw[hV] at this
       exact this))
      have E:=zH (times_c AM AS lM lS cM cS wr wM.words wS.words t.1 J.1 U0 U0);rw[vM,vS] at E;have T:zK (NatV wr 0 (zL AM lM.length cM) M):=⟨AM,lM,cM,rfl,aq,t,vM,wM⟩;have ai:=zH (pow_pow2 S k X);have ao:=zH hV;have ha:=and_one k U0;have hd:(k:Int) / 2=((k / 2:Nat):Int):=U0;clear p wM wS t J vM vS hV HR;go_upto_if 39 with fail;go_cut [7] (fun z wx=>NatV wx 0 z (M*S^(k % 2))/\zB wr wx);case first=>
       by_cases B:k % 2=1
       . rw[B] at ha;go_wp2_with fail;refine E.o.mono ?_;rintro e w' ⟨v,rfl,hv,p⟩;have I:=zH hv;have r:=zH p;clear hv p;go_wp2;go_meet;refine⟨?_,r.o⟩;rw[B,Nat.pow_one];exact I.o.low (Nat.zero_le _)
       . (have he:k % 2=0:=by omega);rw[he] at ha;go_wp2;go_meet;refine⟨?_,Below.refl _ _⟩;rw[he,Nat.pow_zero,Nat.mul_one];exact T.o
      case rest =>
       obtain⟨ad,K⟩:=hcut;have a2:=zH ad;have j:=zH (P.o.trans (K.mono P.o.size));have aj:=zH (an.o.grow K);obtain⟨A7,l7,c7,rfl,W,i,z,w7⟩:=ad;have ap:0<M*S^(k % 2):=Nat.mul_pos V (Nat.pow_pos u);(have s:zK (M*S^(k % 2)*(S*S)^(k / 2)=x^n):=by show _=_;rw[Nat.mul_assoc,<- ai.o,ao.o]);clear K E T ha;by_cases Z:k / 2=0
       . have a8 : l7.length <= 200 := qfQ i (by rw [z];exact lim_of h1 hn (by
          have:=s.o
          rw[Z,Nat.pow_zero,Nat.mul_one] at this
          exact Nat.le_of_eq this))
         have HT:=zH (trim_c A7 l7 c7 wc w7.words U0 W);rw[cn_trm i] at HT;have Q:=zH i;(have al:zK (val BB l7=x^n):=by have:=s.o;rw[Z,Nat.pow_zero,Nat.mul_one] at this;show _=_;rw[z,this]);have ar:(k:Int) / 2=0:=U0;clear i z w7 hd s;go_wp2_with fail;refine HT.o.mono ?_;rintro e w' ⟨v,rfl,ho,p⟩;have R:=zH ho;have ah:=zH (j.o.trans (p.mono j.o.size));clear ho p;go_wp2;go_ret2;refine⟨_,rfl,?_,ah.o⟩;rw[<- al.o];have ho:=R.o;rw[<- cn_trm Q.o] at ho;exact(ho.nat Q.o.1).low j.o.size
       . obtain⟨O,af,U,e2,a1,m,ag,N⟩:=aj.o;have H:=zH (times_c O O af af U U wc N.words N.words m.1 m.1 (by injection e2;omega) (by injection e2;omega));rw[ag,<- e2] at H;(have ar:(((k / 2:Nat):Int)==0)=false:=by rw[beq_eq_false_iff_ne];omega);have a6:k / 2<k:=U0;have aa:k / 2<=n:=U0;generalize k / 2=k2 at *;have ak:zK (NatV wc 0 (zL A7 l7.length c7) (M*S^(k % 2))):=⟨A7,l7,c7,rfl,W,i,z,w7⟩;clear m ag N e2 i z w7;go_wp2_with fail;refine H.o.mono ?_;rintro e w' ⟨v,rfl,hv,p⟩;have I:=zH hv;have r:=zH p;clear hv p H;go_wp2;go_roundw;case rel=>exact⟨k2,_,S*S,U0,aa,rfl,ak.o.grow r.o,I.o.low (Nat.zero_le _),ap,Nat.mul_pos u u,s.o,j.o.trans (r.o.mono j.o.size)⟩
         case measure=>simp[intOf];omega
theorem ch_lim{n k:Nat}(f:n<=64):Al.ch n k<BB^3:=by have b:=Al.ch_le n k;have c:2^n<=2^64:=Nat.pow_le_pow_right dc f;have d:(2:Nat)^64<BB^3:=dc;omega
def RelBi(w:Wo)(n:Nat)(v6 v27:Value)(m:Nat)(wr:Wo):Prop:=
 ∃i:Nat,i<=m/\v27=Y (i:Int)/\NatV wr w.heap.size v6 (Al.ch n i)/\zB w wr
theorem binomial_c(n k:Nat)(w:Wo)(hn:n<=64)(hk:k<=n):
 zC 229 #[Y (n:Int),Y (k:Int)] w fun e w'=>∃v,e=.returned (.tuple #[v,Y 0])/\NatV w' w.heap.size v (Al.ch n k)/\zB w w':=by
 have r:zK (zB w (w.alloc (.cells #[.int .u32 ((1:Nat):Int)] 183))):=zV.alloc zn _;obtain⟨m,J⟩:∃m,m=min k (n-k):=⟨_,rfl⟩;have ah:2*m<=n:=U0;have D:zK (Al.ch n m=Al.ch n k):=by
  show _=_;by_cases c:k<=n-k
  . rw[J,Nat.min_eq_left c]
  . rw[J,Nat.min_eq_right U0,Al.ch_symm hk]
 have N:zK (RelBi w n (zS w.heap.size 1 1) (Y 0) m (w.alloc (.cells #[.int .u32 ((1:Nat):Int)] 183))):=⟨0,U0,rfl,by
  have:Al.ch n 0=1:=by unfold Al.ch;rfl
  rw[this]
  exact one_nat dc dc,r.o⟩
 have X:min (k:Int) ((n:Int)-(k:Int))=(m:Int):=U0;have V:decide ((4096:Int)<(n:Int))=false:=decide_eq_false U0;have W:decide ((n:Int)<(k:Int))=false:=decide_eq_false U0;clear J r;go_enter func229,ntmps229;go_upto_region 6 with fail;have y:zK (RelBi w n (zS w.heap.size 1 1) (Y 0) m (w.alloc (.cells #[.int .u32 1] 183))):=N.o;clear N;generalize w.alloc (.cells #[.int .u32 1] 183)=U at *;go_cut [26,27] (fun v26 v27 wx=>v26=Y (m:Int)/\v27=Y 0/\wx=U);case first=>
  go_wp2_with fail
  all_goals
   go_meet
   exact⟨by congr 1;omega,rfl,rfl⟩
 case rest=>
 obtain⟨rfl,rfl,rfl⟩:=hcut;clear V W X;go_wp2;go_loopw [6,27] (fun v6 v27 wr=>RelBi w n v6 v27 m wr) (fun _ v27 _=>m-(intOf v27).toNat);case atStart=>exact y.o
 case round =>
  obtain⟨i,hi,rfl,K,b⟩:=hrel;have p:=zH b;obtain⟨A,l,c,rfl,hc,I,M,wl⟩:=K;have af:l.length<=3:=cn_len I (by rw[M];exact ch_lim hn);have s:=zH I;have u:=zH M;have z:=zH wl;clear b I M wl y;by_cases ag:i<m
  . obtain ⟨x,O⟩ : ∃ x,x = n - i := ⟨_,rfl⟩;have ai:0<x:=U0;have Z:(n:Int)-(i:Int)=(x:Int):=U0;have aa:IntKind.u32.wrap (x:Int)=(x:Int):=IntWalk.u32_in _ U0;(have ab:IntKind.u32.wrap ((i:Int)+1)=((i+1:Nat):Int):=by rw [IntWalk.u32_in _ U0];omega);have h:zK (zB wr (wr.alloc (.cells #[.int .u32 (x:Int)] 183))):=zV.alloc zn _;have t:=zH (times_c A (zO wr.heap.size) l [x] c 1 _ (z.o.words.up h.o) (one_word (w:=wr) (x:=x)) s.o.1 (fun d hd=>by rw [List.mem_singleton.1 hd];unfold BB;omega) U0 U2);(have B:val BB [x]=x:=by show x+BB*0=x;omega);(have H:zK (val BB l*val BB [x]=Al.ch n (i+1)*(i+1)):=by show _=_;rw [B,u.o,O,Al.ch_step]);rw [H.o] at t;clear O B;go_wp2_with fail;refine t.o.mono ?_;rintro e Q ⟨v,rfl,K,b⟩;have f:zK (zB w Q):=p.o.trans ((h.o.trans (b.mono h.o.size)).mono p.o.size);obtain ⟨R,P,c1,rfl,ac,j,L,C⟩:=K;have ad:=Al.ch_le n (i+1)
    have ae:P.length<=6:=cn_len j (by
     rw[L]
     have h3:=ch_lim (n:=n) (k:=i+1) hn
     have h4:i+1<BB^3:=by
      have:(1000:Nat)<BB^3:=dc
      omega
     have h5:BB^6=BB^3*BB^3:=by rw[<- Nat.pow_add]
     rw[h5]
     exact Nat.mul_lt_mul'' h3 h4)
    have E:=zH (digit_c R P c1 (i+1) Q C.words j.1 U0 U0 U0);rw[L,Nat.mul_div_cancel _ U0] at E;clear b j L C t;go_wp2_with fail;refine E.o.mono ?_;rintro e w2 ⟨q,rfl,hq,b⟩;have T:=zH hq;have g:=zH (f.o.trans (b.mono f.o.size));clear hq b E;go_wp2;go_roundw;case rel=>exact⟨i+1,U0,U3,T.o.low f.o.size,g.o⟩
    case measure=>simp[intOf];omega
  . (obtain rfl:i=m:=by omega);have t:=zH (trim_c A l c wr z.o.words U0 hc);go_wp2_with fail;refine t.o.mono ?_;rintro e w' ⟨v,rfl,ho,b⟩;have S:=zH ho;have g:=zH (p.o.trans (b.mono p.o.size));clear ho b;go_wp2;go_ret2;refine⟨_,rfl,?_,g.o⟩;rw[<- D.o,<- u.o];exact(S.o.nat s.o.1).low p.o.size
end Go.Proofs.YtflejelbdlelpaaGreat
