/- Parts of the proof. -/
import Derived.Test.YtndipkplnkfoeaaGreatR11
import Derived.Test.YtndipkplnkfoeaaGreatR07
set_option maxRecDepth 100000
set_option maxHeartbeats 8000000
namespace Go.Proofs.YtndipkplnkfoeaaGreat
open Go.RowKit Pln
def BX(w:World)(cs:List Value)(t:TypeId)(W:World):Prop:=W.heap[w.heap.size]?=some (.cells cs.toArray t (0,0))/\Below w.heap.size w W/\w.heap.size<W.heap.size
section
variable {w:World} {cs:List Value} {t:TypeId} {W W':World}
theorem BX.grow(h:BX w cs t W)(f:Below W.heap.size W W'):BX w cs t W':=by obtain⟨b,c,d⟩:=h;exact⟨(f.block _ U0).trans b,c.trans (f.mono U0),Nat.lt_of_lt_of_le d f.size⟩
theorem BX.below(h:BX w cs t W):Below w.heap.size w W:=h.2.1
theorem BX.cell(h:BX w cs t W){k:Nat}{v:Value}(b:cs[k]?=some v):W.cell? (zA w.heap.size k)=some v:=by rw[cell_of_row W w.heap.size k _ _ _ h.1];simpa using b
theorem BX.range(h:BX w cs t W):W.rangeAt w.heap.size 0 cs:=range_of_row h.1
end
theorem bx_new(w:World)(cs:List Value)(t:TypeId):BX w cs t (w.alloc (.cells cs.toArray t)):=⟨heap_alloc_new _ _,(Below.refl _ _).alloc (Nat.le_refl _) _,U2⟩
def RelFewN(w:World)(cs:List Value)(t:TypeId)(n:Nat)(N:Int)(v5 v6:Value)(wr:World):Prop:=∃(k:Nat)(l:Int),k<=n/\0<=l/\l<=N/\v5=Y l/\v6=Y k/\BX w cs t wr
theorem rfewN_c(N:Int)(zs:List (List Int))(A:Option Addr)(c:Nat)(w:World)(J:RowsAt w w.heap.size A zs)(K:0<=N)(L:N<=1000000):
 zC 43 #[.agg #[Y 0,zL A zs.length c],Y N] w fun e w'=>∃b,e=.returned (.bool b)/\Below w.heap.size w w':=by
 have d:=zH (bx_new w [Y 0,zL A zs.length c] 54);have j:=zH J;clear J;go_enter Tryz.func43,Tryz.ntmps43;go_upto_region 1 with fail;generalize w.alloc (.cells #[Y 0,zL A zs.length c] 54)=g at *;have m:g.cell? (zA w.heap.size 0)=some (Y 0):=d.out.cell rfl;have h:g.cell? (zA w.heap.size 1)=some (zL A zs.length c):=d.out.cell rfl;by_cases E:N<(zs.length:Int)
 . go_wp2_with fail;go_ret;exact⟨_,rfl,d.out.below⟩
 have r:IntKind.i64.wrap (N-(zs.length:Int))=N-(zs.length:Int):=IntWalk.i64_in _ U0;go_wp2_with fail;go_loopw [5,6] (fun v5 v6 wr=>RelFewN w [Y 0,zL A zs.length c] 54 zs.length N v5 v6 wr) (fun _ v6 _=>zs.length-(intOf v6).toNat);case atStart=>exact⟨0,N-(zs.length:Int),U0,U0,U0,gn,rfl,d.out⟩
 case round =>
  clear m h d r;obtain⟨k,l,z,H,I,rfl,rfl,i⟩:=hrel;have d:=zH i;clear i;have h:wr.cell? (zA w.heap.size 1)=some (zL A zs.length c):=d.out.cell rfl;by_cases f:k<zs.length
  . obtain ⟨b,o,u,v,rfl,x,y,p⟩ := (j.out.keep d.out.below).at_ f;clear p;have q:(0:Int)<=((zs.getD k []).length:Int):=U0;generalize (zs.getD k []).length=n at *;have C:(0:Int)<=(k:Int):=U0;have D:(k:Int)<(zs.length:Int):=U0;by_cases B:l<(n:Int)
    . go_wp2_with fail;go_ret;exact⟨_,rfl,d.out.below⟩
    . have s : IntKind.i64.wrap (l - (n : Int)) = l - (n : Int):=IntWalk.i64_in _ U0;have t:IntKind.i64.wrap ((k:Int)+1)=(k:Int)+1:=IntWalk.i64_in _ U0;go_wp2_with fail;go_roundw;case rel=>exact⟨k+1,l-n,U0,U0,U0,gn,gn,d.out⟩
      case measure=>exact mE
  . (obtain rfl:k=zs.length:=by omega);go_wp2_with fail;go_ret;exact⟨_,rfl,d.out.below⟩
theorem fewN_c(N:Int)(l v1 v2 m:Value)(zs:List (List Int))(A:Option Addr)(c:Nat)(w:World)(n:RowsAt w w.heap.size A zs)(o:0<=N)(p:N<=1000000):
 zC 24 #[.agg #[l,v1,v2,m,zL A zs.length c],Y N] w fun e w'=>∃b,e=.returned (.bool b)/\Below w.heap.size w w':=by have d:=zH (bx_new w [l,v1,v2,m,zL A zs.length c] 32);have h:=zH n;clear n;go_enter Tryz.func24,Tryz.ntmps24;go_upto_region 1 with fail;generalize w.alloc (.cells #[l,v1,v2,m,zL A zs.length c] 32)=g at *;have j:g.cell? (zA w.heap.size 4)=some (zL A zs.length c):=d.out.cell rfl;have i:=zH (rfewN_c N zs A c g ((h.out.keep d.out.below).more d.out.below.size) o p);go_wp2_with fail;(with_reducible refine i.out.mono ?_);rintro e k ⟨b,rfl,hb1⟩;have f:=zH (d.out.grow hb1);clear hb1;go_wp2_with fail;go_ret;exact⟨_,rfl,f.out.below⟩
theorem xfew_c(zs:List (List Int))(A:Option Addr)(c:Nat)(w:World)(l:RowsAt w w.heap.size A zs):
 zC 25 #[.agg #[zL A zs.length c]] w fun e w'=>∃b,e=.returned (.bool b)/\Below w.heap.size w w':=by have d:=zH (bx_new w [zL A zs.length c] 38);have h:=zH l;clear l;go_enter Tryz.func25,Tryz.ntmps25;go_upto_region 1 with fail;generalize w.alloc (.cells #[zL A zs.length c] 38)=g at *;have j:g.cell? (zA w.heap.size 0)=some (zL A zs.length c):=d.out.cell rfl;have i:=zH (rfewN_c 20000 zs A c g ((h.out.keep d.out.below).more d.out.below.size) dc dc);go_wp2_with fail;(with_reducible refine i.out.mono ?_);rintro e k ⟨b,rfl,hb1⟩;have f:=zH (d.out.grow hb1);clear hb1;go_wp2_with fail;go_ret;exact⟨_,rfl,f.out.below⟩
theorem rwt_append:∀ u v:List Nat,Dv.wt (u++v)=Dv.wt u+Dv.wt v
 |[],v=>by simp[Dv.wt]
 |x :: r,v=>by
   show(if x=0 then 0 else 1)+Dv.wt (r++v)=(if x=0 then 0 else 1)+Dv.wt r+Dv.wt v
   rw[rwt_append r v,Nat.add_assoc]
theorem rwt_take{v:List Nat}{j:Nat}(b:j<v.length):Dv.wt (v.take (j+1))=Dv.wt (v.take j)+if v.getD j 0=0 then 0 else 1:=by
 rw[List.take_add_one,List.getElem?_eq_getElem b,rwt_append];have e:v.getD j 0=v[j]:=by simp[List.getD,b]
 rw[e];simp[Dv.wt]
theorem rwt_le:∀ v:List Nat,Dv.wt v<=v.length
 |[]=>by simp[Dv.wt]
 |x :: r=>by
   have:=rwt_le r
   unfold Dv.wt
   rw[List.length_cons]
   split<;>omega
def RelWg(v:List Nat)(w:World)(v3 v4:Value)(wr:World):Prop:=∃k:Nat,k<=v.length/\v4=Y k/\v3=Y ((Dv.wt (v.take k):Nat):Int)/\wr=w
def RelEx(q k:Nat)(w:World)(v8 v9:Value)(wr:World):Prop:=∃i:Nat,i<=k/\v9=Y i/\v8=Y ((q^i:Nat):Int)/\q^i<=65536/\wr=w
theorem weight_c(v:List Nat)(A:Option Addr)(c:Nat)(w:World)(t:IntsAt w w.heap.size A (nz v))(u:v.length<=1000):
 zC 11 #[zL A v.length c] w fun e w'=>e=.returned (Y ((Dv.wt v:Nat):Int))/\w=w':=by
 have i:=zH t;clear t;go_enter Tryz.func11,Tryz.ntmps11;go_wp2_with fail;go_loopw [3,4] (fun v3 v4 wr=>RelWg v w v3 v4 wr) (fun _ v4 _=>v.length-(intOf v4).toNat);case atStart=>exact⟨0,U0,rfl,rfl,rfl⟩
 case round =>
  obtain⟨k,q,rfl,rfl,rfl⟩:=hrel;have m:Dv.wt (v.take k)<=1000:=Nat.le_trans (rwt_le _) (by rw[List.length_take];omega);by_cases f:k<v.length
  . obtain ⟨b,o,rfl,p,h⟩ := i.out.at_ (k := k) (by rw [qaA];exact f);rw [qaC] at h;have d:=zH (rwt_take f);have r:(0:Int)<=(k:Int):=U0;have s:(k:Int)<(v.length:Int):=U0;have j:IntKind.i64.wrap ((k:Int)+1)=(k:Int)+1:=IntWalk.i64_in _ U0;have l:IntKind.i64.wrap (((Dv.wt (v.take k):Nat):Int)+1)=((Dv.wt (v.take k):Nat):Int)+1:=IntWalk.i64_in _ U0;by_cases g:v.getD k 0=0
    . rw[if_pos g] at d;rw[g] at h;clear g;go_wp2_with fail;go_roundw;case rel=>exact⟨k+1,U0,gn,by rw[d.out];rfl,rfl⟩
      case measure=>exact mE
    . rw[if_neg g] at d;(have n:(((v.getD k 0:Nat):Int) != 0)=true:=by simpa using g);generalize v.getD k 0=x at *;go_wp2_with fail;go_roundw;case rel=>exact⟨k+1,U0,gn,by rw[d.out];go_num,rfl⟩
      case measure=>exact mE
  . (obtain rfl:k=v.length:=by omega);rw[List.take_length];go_wp2_with fail;go_ret;exact⟨rfl,rfl⟩
def inV(p m x:Int):Int:=if inB (orderM p m) x=true then x else 0
theorem rinG_c(p m:Int)(A:Option Addr)(n c:Nat)(x:Int)(w:World):zC 22 #[Ch p m A n c,Y x] w fun e w'=>e=.returned (Y (inV p m x))/\Below w.heap.size w w':=by
 have g:=zH (bx_new w (Ci p m A n c) 29);go_enter Tryz.func22,Tryz.ntmps22;go_upto_region 1 with fail;generalize w.alloc (Ce p m A n c)=i at *;have b:=zH g.out.range;have f:=zH (ris_c p m A n c x i);cases hbb:inB (orderM p m) x;all_goals rw[hbb] at f
 . (have h:Hid (inV p m x=0):=by show _=_;unfold inV;rw[hbb];rfl);clear hbb;go_wp2_with (refine wpList_load_mid rfl 29 (.tmp 2) rfl w.heap.size 0 rfl (Ci p m A n c) _ b.out Tryz.underlying29 rfl fieldSize ?_);refine f.out.mono ?_;rintro e j ⟨rfl,hb1⟩;have d:=zH (g.out.grow hb1);clear hb1 f g b;go_wp2_with fail;go_ret;exact⟨qaG (by rw[h.out]),d.out.below⟩
 . (have h:Hid (inV p m x=x):=by show _=_;unfold inV;rw[hbb];rfl);clear hbb;go_wp2_with (refine wpList_load_mid rfl 29 (.tmp 2) rfl w.heap.size 0 rfl (Ci p m A n c) _ b.out Tryz.underlying29 rfl fieldSize ?_);refine f.out.mono ?_;rintro e j ⟨rfl,hb1⟩;have d:=zH (g.out.grow hb1);clear hb1 f g b;go_wp2_with fail;go_ret;exact⟨qaG (by rw[h.out]),d.out.below⟩
def expV(q k:Nat):Int:=if q^k<=65536 then((q^k:Nat):Int) else 0
def expE(q k:Nat):Int:=if q^k<=65536 then 0 else 8
theorem tdiv_natE(a b:Nat):Int.tdiv (a:Int) (b:Int)=((a / b:Nat):Int):=rfl
theorem exp_c(q k:Nat)(N:2<=q)(L:q<=256)(M:k<=1000)(w:World):
 zC 89 #[Y q,Y k,Y 65536] w fun e w'=>e=.returned (.tuple #[Y (expV q k),Y (expE q k)])/\w=w':=by
 have D:¬(q:Int)<0:=U0;have E:¬(k:Int)<0:=U0;have H:((q:Int)==0)=false:=beq_false_of_ne U0;have I:(1:Int)<(q:Int):=U0;have x:¬(q:Int)=0:=U0;have y:¬q=0:=U0;have v:Int.tdiv 65536 (q:Int)=((65536 / q:Nat):Int):=tdiv_natE 65536 q;have u:65536 / q<=65536:=Nat.div_le_self _ _;have g:∀a:Nat,a<=65536 / q ↔ a*q<=65536:=fun a=>Nat.le_div_iff_mul_le U0;generalize 65536 / q=c at *;have C:IntKind.i64.wrap (c:Int)=(c:Int):=IntWalk.i64_in _ U0;have b:=zH g;clear g;go_enter Tryz.func89,Tryz.ntmps89;go_wp2_with fail;go_loopw [8,9] (fun v8 v9 wr=>RelEx q k w v8 v9 wr) (fun _ v9 _=>k-(intOf v9).toNat);case atStart=>exact⟨0,U0,rfl,U2,U2,rfl⟩
 case round =>
  obtain⟨i,J,rfl,rfl,j,rfl⟩:=hrel;by_cases o:i<k
  . (have K : (i : Int) < (k : Int) := by omega);have A:IntKind.i64.wrap ((i:Int)+1)=(i:Int)+1:=IntWalk.i64_in _ U0;have l:=b.out (q ^ i);rw [<- Nat.pow_succ] at l;by_cases p:q ^ i<=c
    . (have d : ¬(c : Int)< ((q^i : Nat): Int):=by omega);have r:=l.1 p;(have B:IntKind.i64.wrap (((q^i:Nat):Int)*(q:Int))=((q^(i+1):Nat):Int):=by rw[<- Int.natCast_mul,<- Nat.pow_succ];exact IntWalk.i64_in _ U0);have s:=zH r;clear l r;generalize q^i=z at *;go_wp2_with fail;go_roundw;case rel=>exact⟨i+1,U0,gn,U2,s.out,rfl⟩
      case measure=>exact mE
    . (have d : (c : Int) < ((q ^ i : Nat) : Int) := by omega);have f:65536<q ^ k:=by
       have t:65536<q^(i+1):=by
        rcases Nat.lt_or_ge 65536 (q^(i+1)) with h|h
        . exact h
        . exact absurd (l.2 h) p
       exact Nat.lt_of_lt_of_le t (Nat.pow_le_pow_right U0 o)
      have n:Hid (expV q k=0):=if_neg U0;have m:Hid (expE q k=8):=if_neg U0;clear l f;generalize q^i=z at *;go_wp2_with fail;go_ret2;rw[n.out,m.out];exact⟨rfl,rfl⟩
  . (obtain rfl:i=k:=by omega);have n:Hid (expV q i=((q^i:Nat):Int)):=if_pos j;have m:Hid (expE q i=0):=if_pos j;have d:¬(65536:Int)<((q^i:Nat):Int):=U0;clear b;generalize q^i=z at *;go_wp2_with fail;go_ret2;rw[n.out,m.out];exact⟨rfl,rfl⟩
def szV(p m:Int)(mod:List Int)(N:Int)(zs:List (List Int)):Int:=if codeZ p m mod N zs≠0 then 0 else expV (p.toNat^m.toNat) zs.length
def szE(p m:Int)(mod:List Int)(N:Int)(zs:List (List Int)):Int:=if codeZ p m mod N zs≠0 then codeZ p m mod N zs else expE (p.toNat^m.toNat) zs.length
theorem size_c2(p m:Int)(mod:List Int)(P:Option Addr)(Q:Nat)(N:Int)(zs:List (List Int))(A:Option Addr)(c:Nat)(w:World)(T:IntsAt w w.heap.size P mod)(U:mod.length<=9223372036854775807)(S:RowsAt w w.heap.size A zs)(R:zs.length<=1000):
 zC 39 #[Ck p m P mod.length Q N A zs.length c] w fun e w'=>e=.returned (.tuple #[Y (szV p m mod N zs),Y (szE p m mod N zs)])/\Below w.heap.size w w':=by
 have g:=zH (bx_new w (Ca p m P mod.length Q N A zs.length c) 32);have B:=zH T;have y:=zH S;clear T S;go_enter Tryz.func39,Tryz.ntmps39;go_upto_region 1 with fail;generalize w.alloc (Cf p m P mod.length Q N A zs.length c)=E at *;have n:=zH g.out.range;have z:=zH (rcodecheck_c p m mod P Q N zs A c E ((B.out.keep g.out.below).more g.out.below.size) U ((y.out.keep g.out.below).more g.out.below.size) U0);clear B y;go_wp2_with (refine wpList_load_mid rfl 32 (.tmp 1) rfl w.heap.size 0 rfl (Ca p m P mod.length Q N A zs.length c) _ n.out Tryz.underlying32 rfl codeSize ?_);refine z.out.mono ?_;rintro e L ⟨rfl,hb1⟩;have i:=zH (g.out.grow hb1);clear hb1 z g n;by_cases f:codeZ p m mod N zs=0
 . have v : Hid (szV p m mod N zs = expV (p.toNat ^ m.toNat) zs.length) := if_neg (fun h => h f);have t:Hid (szE p m mod N zs=expE (p.toNat ^ m.toNat) zs.length):=if_neg (fun h=>h f);have b:=field_ft (codeZ_n f).1;(have k:((p.toNat:Nat):Int)=p/\((m.toNat:Nat):Int)=m:=by have J:=b.small.p1;have K:=b.small.m1;omega);have r:2<=p.toNat ^ m.toNat:=Nat.le_trans b.small.p1 (Nat.le_self_pow (by have:=b.small.m1;omega) _);have s:=b.small.q;(have D:orderM p m=((p.toNat ^ m.toNat:Nat):Int):=by have h:=qbX b.small.p1 b.small.p2 b.small.m1 b.small.m2;rw [k.1,k.2] at h;rw [h,if_neg U0]);(have C:Hid (∀ W,zC 33 #[Ch p m P mod.length Q] W fun e w'=>e=.returned (Y ((p.toNat ^ m.toNat:Nat):Int))/\Below W.heap.size W w'):=fun W=>by rw [<- D];exact rorder_c p m P mod.length Q W);have l:Hid (∀ W,zC 89 #[Y ((p.toNat ^ m.toNat:Nat):Int),Y zs.length,Y 65536] W fun e w'=>e=.returned (.tuple #[Y (expV (p.toNat ^ m.toNat) zs.length),Y (expE (p.toNat ^ m.toNat) zs.length)])/\W=w'):=fun W=>exp_c _ _ r s R W;rw [f];clear f b k r s D;generalize p.toNat ^ m.toNat=q at *;generalize expV q zs.length=ev at *;generalize expE q zs.length=I at *;go_upto_region 4 with fail;refine qaD (BX w (Ca p m P mod.length Q N A zs.length c) 32) U1 U1 (i.out.grow (Below.refl _ _).drew) ?_
   repeat (first
    | (refine keep_load_mid rfl 29 (.tmp 10) rfl w.heap.size 0 rfl (Ci p m P mod.length Q) _ (fun W d => fun j u hu => by
        match j,hu with
        |0,hu=>exact d.range 0 u hu
        |1,hu=>exact d.range 1 u hu
        |2,hu=>exact d.range 2 u hu
        |j+3,hu=>simp at hu) Tryz.underlying29 rfl fieldSize ?_
       go_simp)
    | (apply qaJ rfl
       . intro W d
         have O:W.cell? (zA w.heap.size 4)=some (zL A zs.length c):=d.cell rfl
         go_simp
         try rfl
       go_simp)
    | (apply qaO rfl
       . intro W d
         go_simp
         exact⟨rfl,rfl⟩
       . intro W d
         first
          |exact(C.out W).mono (by rintro e w' ⟨rfl,hb⟩;exact⟨rfl,d.grow hb⟩)
          |exact(l.out W).mono (by rintro e w' ⟨rfl,rfl⟩;exact⟨rfl,d⟩)
       go_simp))
   refine qaE ?_;intro M o;have x:=zH o;clear o i C l;go_wp2_with fail;go_ret2;rw[v.out,t.out];exact⟨rfl,x.out.below⟩
 . have v:Hid (szV p m mod N zs=0):=if_pos f;have t:Hid (szE p m mod N zs=codeZ p m mod N zs):=if_pos f;have H:(codeZ p m mod N zs != 0)=true:=bne_iff_ne.2 f;go_wp2_with fail;go_ret2;rw[v.out,t.out];exact⟨rfl,i.out.below⟩
def cnV(p m:Int)(mod:List Int)(N:Int)(zs:List (List Int))(most:Int):Int:=if szE p m mod N zs≠0\/most<szV p m mod N zs then 0 else szV p m mod N zs
theorem count_c(p m:Int)(mod:List Int)(v:Option Addr)(x:Nat)(N:Int)(zs:List (List Int))(A:Option Addr)(c:Nat)(u:Int)(w:World)(B:IntsAt w w.heap.size v mod)(C:mod.length<=9223372036854775807)(z:RowsAt w w.heap.size A zs)(y:zs.length<=1000):
 zC 20 #[Ck p m v mod.length x N A zs.length c,Y u] w fun e w'=>e=.returned (Y (cnV p m mod N zs u))/\Below w.heap.size w w':=by
 have d:=zH (bx_new w (Ca p m v mod.length x N A zs.length c) 32);have q:=zH B;have n:=zH z;clear B z;go_enter Tryz.func20,Tryz.ntmps20;go_upto_region 1 with fail;generalize w.alloc (Cf p m v mod.length x N A zs.length c)=s at *;have j:=zH d.out.range;have o:=zH (size_c2 p m mod v x N zs A c s ((q.out.keep d.out.below).more d.out.below.size) C ((n.out.keep d.out.below).more d.out.below.size) y);have g:Hid (cnV p m mod N zs u=if szE p m mod N zs≠0\/u<szV p m mod N zs then 0 else szV p m mod N zs):=rfl;clear q n;generalize szE p m mod N zs=k at *;generalize szV p m mod N zs=ev at *;go_wp2_with (refine wpList_load_mid rfl 32 (.tmp 2) rfl w.heap.size 0 rfl (Ca p m v mod.length x N A zs.length c) _ j.out Tryz.underlying32 rfl codeSize ?_);refine o.out.mono ?_;rintro e t ⟨rfl,hb1⟩;have f:=zH (d.out.grow hb1);clear hb1 o d j;by_cases i:k=0
 . have l : (k != 0) = false:=bne_eq_false_iff_eq.2 i;by_cases r:u<ev
   . (have b:Hid (cnV p m mod N zs u=0):=by show _=_;rw[g.out,if_pos (.inr r)]);clear i g;go_wp2_with fail;go_ret;exact⟨qaG (by rw[b.out]),f.out.below⟩
   . (have b:Hid (cnV p m mod N zs u=ev):=by show _=_;rw[g.out,if_neg (fun h=>h.elim (fun h=>h i) r)]);clear i g;go_wp2_with fail;go_ret;exact⟨qaG (by rw[b.out]),f.out.below⟩
 . have l:(k != 0)=true:=bne_iff_ne.2 i;(have b:Hid (cnV p m mod N zs u=0):=by show _=_;rw[g.out,if_pos (.inl i)]);clear g;go_wp2_with fail;go_ret;exact⟨qaG (by rw[b.out]),f.out.below⟩
def LSc(w:World)(p m:Nat)(A:Option Addr)(n c bm om bh oh k x:Nat)(v:Value)(W:World):Prop:=
 BX w (Ci p m A n c) 29 W/\W.cell? (zA bm (om+k))=some (Y x)/\W.cell? (zA bh (oh+k))=some v
theorem LSc.keep{w:World}{p m:Nat}{A:Option Addr}{n c d i b g k x:Nat}{v:Value}{W j:World}(h:LSc w p m A n c d i b g k x v W)(f:Below W.heap.size W j):LSc w p m A n c d i b g k x v j:=
 ⟨h.1.grow f,(f.cell (p:=(zA d (i+k))) (World.block_lt_of_cell? W _ h.2.1)).trans h.2.1,(f.cell (p:=(zA b (g+k))) (World.block_lt_of_cell? W _ h.2.2)).trans h.2.2⟩
def RelCb(w:World)(p m:Nat)(A:Option Addr)(n c:Nat)(O:Ops)(q:Nat)(msg:List Nat)(rows:List (List Nat))(cols:Nat)(v9 v10:Value)(wr:World):Prop:=
 ∃(k g:Nat)(u:List Nat),k<=rows.length/\v10=Y k/\v9=zS g cols cols/\BX w (Ci p m A n c) 29 wr/\Row wr w.heap.size g cols (nz u)/\u.length=cols/\(∀x∈u,x<q)/\Dv.combO O u (msg.drop k) (rows.drop k)=Dv.combO O (List.replicate cols 0) msg rows
theorem combO_step{O:Ops}{u d:List Nat}{rows:List (List Nat)}{k:Nat}(f:k<d.length)(g:k<rows.length){r:List Nat}(h:Dv.combO O u (d.drop k) (rows.drop k)=r):
 Dv.combO O (if d.getD k 0=0 then u else addRow O u (d.getD k 0) (rows.getD k [])) (d.drop (k+1)) (rows.drop (k+1))=r:=by
 rw[List.drop_eq_getElem_cons f,List.drop_eq_getElem_cons g] at h;unfold Dv.combO at h;have b:d.getD k 0=d[k]:=by simp[List.getD,f]
 have c:rows.getD k []=rows[k]:=by simp[List.getD,g]
 rw[b,c];exact h
theorem row_ints{w:World}{B g c:Nat}{zs:List Int}(h:Row w B g c zs):IntsAt w w.heap.size (zO g) zs:=fun _=>⟨g,0,rfl,h.lt.2,fun j hj=>by rw[Nat.zero_add];exact h.cell hj⟩
theorem rcombine_c(p m:Nat)(md:List Nat)(A:Option Addr)(n c:Nat)(ay:List Nat)(rows:List (List Nat))(Am:Option Addr)(cm:Nat)(Ah:Option Addr)(ch ax:Nat)(w:World)(hR:RFld p m md A n w.heap.size w)(hf:∃ l,FT p m md l)(hM:IntsAt w w.heap.size Am (nz ay))(a0:∀ x∈ay,x<p ^ m)(hA:RowsAt w w.heap.size Ah (nzs rows))(az:Grid (p ^ m) rows.length ax rows)(hl:ay.length=rows.length)(hc:ax<=256)(hn:rows.length<=256):
 zC 23 #[Ch p m A n c,zL Am ay.length cm,zL Ah rows.length ch,Y ax] w fun e w'=>(∃g,e=.returned (zS g ax ax)/\Row w' w.heap.size g ax (nz (Dv.combO (refOps p m md) (List.replicate ax 0) ay rows))/\(Dv.combO (refOps p m md) (List.replicate ax 0) ay rows).length=ax/\∀x∈Dv.combO (refOps p m md) (List.replicate ax 0) ay rows,x<p^m)/\Below w.heap.size w w':=by
 have t:=zH (bx_new w (Ci p m A n c) 29);have HM:=zH hM;have HA:=zH hA;have HG:=zH az;have HE:=zH (qeI hR hf);have au:0<p^m:=Nat.pow_pos (by have:=hR.small.p1;omega);have U:Hid (∀k,k<rows.length->ay.getD k 0<p^m):=fun k hk=>by
  have af:k<ay.length:=U0;have:ay.getD k 0=ay[k]:=by simp[List.getD,af]
  rw[this];exact a0 _ (List.getElem_mem af)
 have H:Hid (∀(a:Nat)(v u:List Nat)(Av Au:Option Addr)(cv cu:Nat)(W:World),a<p^m->(∀x∈v,x<p^m)->(∀x∈u,x<p^m)->v.length=ax->u.length=ax->IntsAt W W.heap.size Av (nz v)->IntsAt W W.heap.size Au (nz u)->Below w.heap.size w W->
  zC 42 #[Ch p m A n c,zL Av ax cv,Y a,zL Au ax cu] W fun e w'=>(∃g,e=.returned (zS g ax ax)/\Row w' W.heap.size g ax (nz (addRow (refOps p m md) v a u)))/\Below W.heap.size W w'):=fun a v u Av Au cv cu W ha hv hu h1 h2 hA hU j=>by
  subst h1
  exact raddto_c p m md A n c a v u Av Au cv cu W ((hR.keep j).more j.size) ha hv hu h2.symm hA hU U0
 obtain⟨i0,hi,ai,aj,ak⟩:=qaF infoInt;have HI:=zH hi;have ab:=zH ai;have ac:=zH aj;have Q:=zH (show i0.bytes*ax<=281474976710656 by rw[ak];omega);have R:=zH (show ax<=maxLen by unfold maxLen;omega);clear hM hA az hR hf a0 hi ai aj ak;generalize refOps p m md=O at *;generalize p^m=q at *;go_enter Tryz.func23,Tryz.ntmps23;go_upto_region 1 with fail;have K:w.heap.size<=(w.alloc (Ce p m A n c)).heap.size:=U2;generalize w.alloc (Ce p m A n c)=W0 at *;go_wp2_with (refine wpList_make_full W0 rfl (.tmp 11) (.tmp 11) 23 rfl w.heap.size 3 i0 (Y 0) 1 Tryz.underlying23 HI.out ab.out ac.out .i64 .i64 ax ax ax rfl rfl rfl rfl Q.out R.out K ?_;intro w1 I az);have ad:=qaL az;have ag:=Row.of_make I;have Z:Hid (RelCb w p m A n c O q ay rows ax (zS W0.heap.size ax ax) (Y ((0:Nat):Int)) w1):=⟨0,_,List.replicate ax 0,Nat.zero_le _,rfl,rfl,t.out.grow ad,ag,U2,fun x hx=>by rw[List.mem_replicate] at hx;omega,rfl⟩;clear I az ad ag K t HI ab ac Q R;generalize W0.heap.size=go at *;have ar:=hl;clear hl;have aq:((ay.length:Nat):Int)=(rows.length:Int):=U0;go_wp2_with fail;go_loopw [9,10] (fun v9 v10 wr=>RelCb w p m A n c O q ay rows ax v9 v10 wr) (fun _ v10 _=>rows.length-(intOf v10).toNat);case atStart=>exact Z.out
 case round =>
  obtain⟨k,g,u,hk,rfl,rfl,hx,J,D,ah,ae⟩:=hrel;have t:=zH hx;have HR:=zH J;have s:=zH ah;have S:=zH ae;clear hx J ah ae Z;by_cases z:k<rows.length
  . (have k0 : (0 : Int) <= (k : Int) := by omega);have k1:(k:Int)<(rows.length:Int):=U0;have k2:(k:Int)<(ay.length:Int):=U0;have av:IntKind.i64.wrap ((k:Int)+1)=(k:Int)+1:=IntWalk.i64_in _ U0;obtain ⟨bm,om,rfl,ap,M⟩:=(HM.out.keep t.out.below).at_ (k:=k) (by rw [qaA];omega);obtain ⟨bh,oh,N,ci,rfl,ao,L,y⟩:=(HA.out.keep t.out.below).at_ (i:=k) (by rw [nzs_len];exact z);rw [qaC] at M;rw [nzs_getD] at L y;obtain ⟨B,C⟩:=HG.out.row z;rw [qaA,B] at L;have o:=zH (combO_step U0 z S.out);have E:=U.out k z;by_cases f:ay.getD k 0=0
    . rw[if_pos f] at o;rw[f] at M;clear f E C B y;go_wp2_with fail;go_roundw;case rel=>exact⟨k+1,g,u,U0,gn,rfl,t.out,HR.out,D,s.out,o.out⟩
      case measure=>exact mE
    . rw [if_neg f] at o;(have aw:(((ay.getD k 0:Nat):Int) != 0)=true:=by rw [bne_iff_ne];omega);have HN:Hid (∀ x∈addRow O u (ay.getD k 0) (rows.getD k []),x<q):=(qdB HE.out E s.out C).2;(have al:Hid ((addRow O u (ay.getD k 0) (rows.getD k [])).length=ax):=by show _=_;rw [qbU _ _ _ _ U0];exact D)
      have P:Hid (∀W,LSc w p m A n c bm om bh oh k (ay.getD k 0) (zL N ax ci) W->Row W w.heap.size g ax (nz u)->IntsAt W W.heap.size N (nz (rows.getD k []))->zC 42 #[Ch p m A n c,zS g ax ax,Y ((ay.getD k 0:Nat):Int),zL N ax ci] W fun e w'=>(∃g,e=.returned (zS g ax ax)/\Row w' W.heap.size g ax (nz (addRow O u (ay.getD k 0) (rows.getD k []))))/\Below W.heap.size W w'):=fun W j hr hi2=>
       H.out _ u _ _ _ ax ci W E s.out C D B (row_ints hr) hi2 j.1.below
      have X:Hid (LSc w p m A n c bm om bh oh k (ay.getD k 0) (zL N ax ci) wr.drew):=⟨t.out.grow (Below.refl _ _).drew,M,L⟩;have T:Hid (IntsAt wr.drew wr.drew.heap.size N (nz (rows.getD k []))):=(y.more t.out.below.size).grow (Nat.le_refl _) (Below.refl _ wr).drew;have V:=zH (HR.out.below (Below.refl _ wr).drew HR.out.lt.2);clear f E C B y H HE U;generalize addRow O u (ay.getD k 0) (rows.getD k [])=u2 at *;generalize rows.getD k []=r at *;generalize ay.getD k 0=x at *;go_upto_region 6 with fail;refine qaS 11 11 (LSc w p m A n c bm om bh oh k x (zL N ax ci)) [(0,0),(1,1),(1,2),(1,3),(1,4),(0,5),(1,6),(1,7),(1,8),(0,9),(2,10)] default U1 U1 (fun _ _ d _ _ h=>by cases d<;>exact h) X.out ?_;generalize wr.drew=Wd at *;simp only[List.map_cons,List.map_nil,List.getD_cons_zero,List.getD_cons_succ];refine qaT rfl 29 (.tmp 4) rfl w.heap.size 0 rfl (Ci p m A n c) _ (fun W j=>j.1.range) Tryz.underlying29 rfl fieldSize ?_;go_simp
      iterate 4
       apply qaM rfl
       . intro W
         go_simp
         rfl
       go_simp
      apply qbF rfl
      . intro W j;have z0:=j.2.1;go_simp;rfl
      go_simp
      iterate 3
       apply qaM rfl
       . intro W
         go_simp
         rfl
       go_simp
      apply qbF rfl
      . intro W j;have z0:=j.2.2;go_simp;rfl
      go_simp;apply qbE rfl
      . go_simp;exact⟨rfl,rfl⟩
      (with_reducible refine(P.out Wd X.out V.out T.out).mono ?_);rintro e w2 ⟨⟨g2,rfl,hr2⟩,hb2⟩;have aa:=zH (X.out.keep hb2);have an:=zH (hr2.base (Nat.le_trans X.out.1.below.size hr2.lt.1));refine⟨_,rfl,aa.out,?_⟩;go_simp;refine qbH ?_;show wpList _ _ _ _ _ _;go_simp;clear hb2 hr2 X V T P;go_wp2_with fail;go_roundw;case rel=>exact⟨k+1,g2,u2,U0,gn,rfl,aa.out.1,an.out,al.out,HN.out,o.out⟩
      case measure=>exact mE
  . (obtain rfl:k=rows.length:=by omega);(have b:Hid (u=Dv.combO O (List.replicate ax 0) ay rows):=by have:=S.out;rw[List.drop_eq_nil_of_le (Nat.le_refl _)] at this;rw[<- this];show u=Dv.combO O u _ [];cases List.drop rows.length ay<;>rfl);go_wp2_with fail;go_ret;exact⟨⟨g,rfl,by rw[<- b.out];exact HR.out,by rw[<- b.out];exact D,by rw[<- b.out];exact s.out⟩,t.out.below⟩
structure RCode (p m:Nat) (md:List Nat) (A:Option Addr) (n cols:Nat) (rows:List (List Nat)) (Ah:Option Addr) (w:World):Prop where
 fld:RFld p m md A n w.heap.size w
 ft:∃l,FT p m md l
 at_:RowsAt w w.heap.size Ah (nzs rows)
 grid:Grid (p^m) rows.length cols rows
 n1:1<=cols
 n2:cols<=64
 len:rows.length<=256
def cwO(p m:Nat)(md:List Nat)(cols:Nat)(rows:List (List Nat))(msg:List Nat):List Nat:=Dv.combO (refOps p m md) (List.replicate cols 0) msg rows
section
variable {p m:Nat} {md:List Nat} {A:Option Addr} {n cols:Nat} {rows:List (List Nat)} {Ah:Option Addr} {w W:World}
theorem RCode.lift(h:RCode p m md A n cols rows Ah w)(b:Below w.heap.size w W):RCode p m md A n cols rows Ah W:=
 ⟨(h.fld.keep b).more b.size,h.ft,(h.at_.keep b).more b.size,h.grid,h.n1,h.n2,h.len⟩
theorem RCode.q2(h:RCode p m md A n cols rows Ah w):2<=p^m/\p^m<=256:=
 ⟨Nat.le_trans h.fld.small.p1 (Nat.le_self_pow (by have:=h.fld.small.m1;omega) _),h.fld.small.q⟩
theorem RCode.order(h:RCode p m md A n cols rows Ah w)(c:Nat)(W:World):zC 33 #[Ch p m A n c] W fun e w'=>e=.returned (Y ((p^m:Nat):Int))/\Below W.heap.size W w':=by have d:=h.fld.small.q;have b:=qbX h.fld.small.p1 h.fld.small.p2 h.fld.small.m1 h.fld.small.m2;rw[if_neg U0] at b;rw[<- b];exact rorder_c p m A n c W
theorem RCode.comb(h:RCode p m md A n cols rows Ah w)(d:List Nat)(f:Option Addr)(c k j:Nat)(o:IntsAt w w.heap.size f (nz d))(i:∀x∈d,x<p^m)(l:d.length=rows.length):
 zC 23 #[Ch p m A n c,zL f rows.length k,zL Ah rows.length j,Y cols] w fun e w'=>(∃g,e=.returned (zS g cols cols)/\Row w' w.heap.size g cols (nz (cwO p m md cols rows d))/\(cwO p m md cols rows d).length=cols/\∀x∈cwO p m md cols rows d,x<p^m)/\Below w.heap.size w w':=by have b:=h.n2;have:=rcombine_c p m md A n c d rows f k Ah j cols w h.fld h.ft o i h.at_ h.grid l U0 h.len;rw[l] at this;exact this
end
section
variable {w:World} {cs:List Value} {t:TypeId} {W:World}
theorem BX.wrote(h:BX w cs t W){g k:Nat}(b:w.heap.size<g)(u:Value):BX w cs t (W.setCell (zA g k) u):=
 ⟨(Below.heap_setCell W (zA g k) u w.heap.size (by show w.heap.size≠g;omega)).trans h.1,h.2.1.setCell (p:=(zA g k)) (Nat.le_of_lt b) u,by simpa using h.2.2⟩
theorem BX.field{a b c:Value}{l:List Value}(h:BX w (a :: b :: c :: l) t W):W.rangeAt w.heap.size 0 [a,b,c]:=fun j u hu=>by
 match j,hu with
 |0,hu=>exact h.range 0 u hu
 |1,hu=>exact h.range 1 u hu
 |2,hu=>exact h.range 2 u hu
 |j+3,hu=>simp at hu
end
theorem i64_nat{x:Nat}(h:x<=65536):IntKind.i64.wrap (x:Int)=(x:Int):=IntWalk.i64_in _ U0
def RelAtt(w:World)(cs:List Value)(g k q i0:Nat)(v1 v7:Value)(wr:World):Prop:=
 ∃(j n':Nat)(t:List Nat),v1=Y n'/\v7=Y ((j:Int)-1)/\n'<=i0/\t.length+j=k/\Dv.digsBE q j n'++t=Dv.digsBE q k i0/\BX w cs 32 wr/\Row wr (w.heap.size+1) g k (nz (List.replicate j 0++t))
theorem rep_set(j x:Nat)(t:List Nat):(List.replicate (j+1) 0++t).set j x=List.replicate j 0++(x :: t):=by rw[List.replicate_succ',List.append_assoc,List.set_append];simp
theorem at_c{p m:Nat}{md:List Nat}{A:Option Addr}{n cols:Nat}{rows:List (List Nat)}{Ah:Option Addr}{w:World}(h:RCode p m md A n cols rows Ah w)(c ch i:Nat)(hi:i<=65536):
 zC 40 #[Ck p m A n c cols Ah rows.length ch,Y i] w fun e w'=>(∃g,e=.returned (zS g cols cols)/\Row w' w.heap.size g cols (nz (cwO p m md cols rows (Dv.digsBE (p^m) rows.length i)))/\(cwO p m md cols rows (Dv.digsBE (p^m) rows.length i)).length=cols)/\Below w.heap.size w w':=by
 have f:=zH (bx_new w (Ca p m A n c cols Ah rows.length ch) 32);have HO:Hid (∀W,zC 33 #[Ch p m A n c] W fun e w'=>e=.returned (Y ((p^m:Nat):Int))/\Below W.heap.size W w'):=fun W=>h.order c W;have ak:=h.len;obtain⟨q2,q3⟩:=h.q2
 have HC:Hid (∀(msg:List Nat)(g:Nat)(W:World),Below w.heap.size w W->Row W (w.heap.size+1) g rows.length (nz msg)->(∀x∈msg,x<p^m)->msg.length=rows.length->zC 23 #[Ch p m A n c,zS g rows.length rows.length,zL Ah rows.length ch,Y cols] W fun e w'=>(∃g,e=.returned (zS g cols cols)/\Row w' W.heap.size g cols (nz (cwO p m md cols rows msg))/\(cwO p m md cols rows msg).length=cols/\∀x∈cwO p m md cols rows msg,x<p^m)/\Below W.heap.size W w'):=fun msg g W hW hr hm hl=>
  (h.lift hW).comb msg _ c _ ch (row_ints hr) hm hl
 obtain⟨i0,S,U,V,X⟩:=qaF infoInt;have HI:=zH S;have N:=zH U;have O:=zH V;have H:=zH (show i0.bytes*rows.length<=281474976710656 by rw[X];omega);have o:=zH (show rows.length<=maxLen by unfold maxLen;omega);clear h S U V X;generalize cwO p m md cols rows=cw at *;generalize p^m=q at *;generalize rows.length=k at *;have ar:((q:Int)==0)=false:=beq_false_of_ne U0;have an:¬(q:Int)=0:=U0;have ao:¬q=0:=U0;go_enter Tryz.func40,Tryz.ntmps40;go_upto_region 1 with fail;have z:w.heap.size+1<=(w.alloc (Cf p m A n c cols Ah k ch)).heap.size:=U2;generalize w.alloc (Cf p m A n c cols Ah k ch)=W0 at *;have s:=zH f.out.field;have J:=zH (HO.out W0);go_wp2_with (refine wpList_load_mid rfl 29 (.tmp 8) rfl w.heap.size 0 rfl (Ci p m A n c) _ s.out Tryz.underlying29 rfl fieldSize ?_);refine J.out.mono ?_;rintro e E ⟨rfl,d⟩;have D:=zH (f.out.grow d);have l:w.heap.size+1<=E.heap.size:=Nat.le_trans z d.size;have c4:E.cell? (zA w.heap.size 4)=some (zL Ah k ch):=D.out.cell rfl;clear d f s J HO;clear z;clear W0;go_wp2_with (refine wpList_make_full E rfl (.tmp 13) (.tmp 13) 23 rfl (w.heap.size+1) 3 i0 (Y 0) 1 Tryz.underlying23 HI.out N.out O.out .i64 .i64 k k k rfl rfl rfl rfl H.out o.out l ?_;intro w2 v R);have d:=qaL R;have T:=Row.of_make v;have ax:IntKind.i64.wrap ((k:Int)-1)=(k:Int)-1:=IntWalk.i64_in _ U0;have M:Hid (RelAtt w (Ca p m A n c cols Ah k ch) E.heap.size k q i (Y (i:Int)) (Y ((k:Int)-1)) w2):=⟨k,i,[],rfl,rfl,Nat.le_refl _,U2,U2,D.out.grow d,by rw[List.append_nil];exact T⟩;clear v R d T D HI N O H o c4;have ae:Hid (w.heap.size<E.heap.size):=l;clear l;generalize E.heap.size=go at *;go_wp2_with fail;go_loopw [1,7] (fun v1 v7 wr=>RelAtt w (Ca p m A n c cols Ah k ch) go k q i v1 v7 wr) (fun _ v7 _=>(intOf v7+1).toNat);case atStart=>exact M.out
 case round=>
  obtain⟨j,b,t,rfl,rfl,aq,au,Q,hx,y⟩:=hrel;have f:=zH hx;have K:=zH y;have Z:=zH Q;clear hx y Q M;cases j with
  |succ j=>
   have ej:((j+1:Nat):Int)-1=(j:Int):=U0;rw[ej];have al:Int.tmod (b:Int) (q:Int)=((b % q:Nat):Int):=qaY b q;have aj:Int.tdiv (b:Int) (q:Int)=((b / q:Nat):Int):=rfl;have ap:b / q<=b:=Nat.div_le_self _ _;have j0:(0:Int)<=(j:Int):=U0;have j1:(j:Int)<(k:Int):=U0;have av:IntKind.i64.wrap ((j:Int)-1)=(j:Int)-1:=IntWalk.i64_in _ U0;have ai:b / q<=65536:=U0;have aw:IntKind.i64.wrap ((b / q:Nat):Int)=((b / q:Nat):Int):=i64_nat ai;have L:=zH (K.out.set j ((b % q:Nat):Int));rw[qbC,rep_set] at L;have f0:=K.out.frozen j;have c0:=K.out.cell (j:=j) (by rw[qaA];simp;omega);have ah:=zH (f.out.wrote (k:=j) ae.out (Y ((b % q:Nat):Int)));(have aa:Hid (Dv.digsBE q j (b / q)++(b % q :: t)=Dv.digsBE q k i):=by have h1:(Dv.digsBE q j (b / q)++[b % q])++t=Dv.digsBE q k i:=Z.out;rw[List.append_assoc] at h1;exact h1);generalize b / q=n2 at *;generalize b % q=r at *;go_wp2_with fail;go_roundw;case rel=>exact⟨j,n2,r :: t,rfl,gn,U0,so,aa.out,ah.out,L.out⟩
   case measure=>first|(simp[intOf];done)|(simp[intOf];omega)
  |zero=>have ej:((0:Nat):Int)-1=-1:=rfl;rw[ej];have P:=f.out.below;have ad:=zH (Dv.digsBE_lt (q:=q) U0 k i);have ac:=zH (Dv.digsBE_len q k i);have I:Hid (t=Dv.digsBE q k i):=Z.out;have C:=zH K.out;rw[show List.replicate 0 0++t=t from rfl,I.out] at C;have B:=zH (HC.out _ go wr P C.out ad.out ac.out);have s:=zH f.out.field;have c3:wr.cell? (zA w.heap.size 3)=some (Y (cols:Int)):=f.out.cell rfl;have c4:wr.cell? (zA w.heap.size 4)=some (zL Ah k ch):=f.out.cell rfl;clear HC K C Z I P;generalize u:Dv.digsBE q k i=dg at B;have ab:=zH u;clear u;go_wp2_with (refine wpList_load_mid rfl 29 (.tmp 31) rfl w.heap.size 0 rfl (Ci p m A n c) _ s.out Tryz.underlying29 rfl fieldSize ?_);refine B.out.mono ?_;rintro e w3 ⟨⟨g3,rfl,hr3,hl3,_⟩,hb3⟩;have o:=zH (f.out.below.trans (hb3.mono f.out.below.size));have ag:=zH (hr3.base (Nat.le_trans f.out.below.size hr3.lt.1));have af:=zH hl3;clear hb3 hr3 hl3 B;go_wp2_with fail;go_ret;rw[ab.out];exact⟨⟨g3,rfl,ag.out,af.out⟩,o.out⟩
theorem inV_nat{p m:Nat}{md:List Nat}{A:Option Addr}{n f:Nat}{rows:List (List Nat)}{g:Option Addr}{w:World}(h:RCode p m md A n f rows g w)(x:Int):∃y:Nat,inV p m x=(y:Int)/\y<p^m:=by
 have d:=h.fld.small.q;have c:=qbX h.fld.small.p1 h.fld.small.p2 h.fld.small.m1 h.fld.small.m2;rw[if_neg U0] at c;obtain⟨q2,_⟩:=h.q2;unfold inV;rw[c];generalize p^m=q at *;by_cases b:inB (q:Int) x=true
 . rw[if_pos b];unfold inB at b;rw[Bool.and_eq_true,decide_eq_true_eq,decide_eq_true_eq] at b;exact⟨x.toNat,U0,U0⟩
 . rw[if_neg b];exact⟨0,rfl,U0⟩
def RelOf(w:World)(cs:List Value)(g k q:Nat)(v6:Value)(wr:World):Prop:=
 ∃(i:Nat)(l:List Nat),i<=k/\v6=Y i/\BX w cs 32 wr/\Row wr (w.heap.size+1) g k (nz l)/\l.length=k/\∀x∈l,x<q
def OSc(w:World)(cs:List Value)(bz oz i:Nat)(x:Int)(W:World):Prop:=BX w cs 32 W/\W.cell? (zA bz (oz+i))=some (Y x)
theorem rof_c{p m:Nat}{md:List Nat}{A:Option Addr}{n ax:Nat}{rows:List (List Nat)}{Ah:Option Addr}{w:World}(h:RCode p m md A n ax rows Ah w)(c ch:Nat)(zs:List Int)(Az:Option Addr)(cz:Nat)(hz:IntsAt w w.heap.size Az zs)(ay:zs.length<=9223372036854775807):
 zC 12 #[Ck p m A n c ax Ah rows.length ch,zL Az zs.length cz] w fun e w'=>(∃(g:Nat)(msg:List Nat),e=.returned (zS g ax ax)/\msg.length=rows.length/\(∀x∈msg,x<p^m)/\Row w' w.heap.size g ax (nz (cwO p m md ax rows msg))/\(cwO p m md ax rows msg).length=ax)/\Below w.heap.size w w':=by
 have b:=zH (bx_new w (Ca p m A n c ax Ah rows.length ch) 32);have u:Hid (∀x,∃y:Nat,inV p m x=(y:Int)/\y<p^m):=inV_nat h;have B:Hid (∀(x:Int)(W:World),zC 22 #[Ch p m A n c,Y x] W fun e w'=>e=.returned (Y (inV p m x))/\Below W.heap.size W w'):=fun x W=>rinG_c p m A n c x W;have HZ:=zH hz;have ap:=h.len;obtain⟨q2,q3⟩:=h.q2
 have N:Hid (∀(msg:List Nat)(g:Nat)(W:World),Below w.heap.size w W->Row W (w.heap.size+1) g rows.length (nz msg)->(∀x∈msg,x<p^m)->msg.length=rows.length->zC 23 #[Ch p m A n c,zS g rows.length rows.length,zL Ah rows.length ch,Y ax] W fun e w'=>(∃g,e=.returned (zS g ax ax)/\Row w' W.heap.size g ax (nz (cwO p m md ax rows msg))/\(cwO p m md ax rows msg).length=ax/\∀x∈cwO p m md ax rows msg,x<p^m)/\Below W.heap.size W w'):=fun msg g W V hr hm hl=>
  (h.lift V).comb msg _ c _ ch (row_ints hr) hm hl
 obtain⟨i0,ab,ae,af,ag⟩:=qaF infoInt;have HI:=zH ab;have T:=zH ae;have U:=zH af;have M:=zH (show i0.bytes*rows.length<=281474976710656 by rw[ag];omega);have f:=zH (show rows.length<=maxLen by unfold maxLen;omega);clear h hz ab ae af ag;generalize cwO p m md ax rows=cw at *;generalize p^m=q at *;generalize rows.length=k at *;generalize inV (p:Int) (m:Int)=iv at *;go_enter Tryz.func12,Tryz.ntmps12;go_upto_region 1 with fail;have t:w.heap.size+1<=(w.alloc (Cf p m A n c ax Ah k ch)).heap.size:=U2;generalize w.alloc (Cf p m A n c ax Ah k ch)=L at *;have c4:L.cell? (zA w.heap.size 4)=some (zL Ah k ch):=b.out.cell rfl;go_wp2_with (refine wpList_make_full L rfl (.tmp 9) (.tmp 9) 23 rfl (w.heap.size+1) 3 i0 (Y 0) 1 Tryz.underlying23 HI.out T.out U.out .i64 .i64 k k k rfl rfl rfl rfl M.out f.out t ?_;intro w1 C aa);have X:=qaL aa;have ad:=Row.of_make C;have R:Hid (RelOf w (Ca p m A n c ax Ah k ch) L.heap.size k q (Y ((0:Nat):Int)) w1):=⟨0,List.replicate k 0,Nat.zero_le _,rfl,b.out.grow X,ad,U2,fun x hx=>by rw[List.mem_replicate] at hx;omega⟩;clear C aa X ad b HI T U M f c4;have ah:Hid (w.heap.size<L.heap.size):=t;clear t;generalize L.heap.size=go at *;clear L;go_wp2_with fail;go_loopw [6] (fun v6 wr=>RelOf w (Ca p m A n c ax Ah k ch) go k q v6 wr) (fun v6 _=>k-(intOf v6).toNat);case atStart=>exact R.out
 case round =>
  obtain⟨i,l,ar,rfl,hx,D,s,ac⟩:=hrel;have b:=zH hx;have v:=zH D;have r:=zH ac;clear hx D ac R;by_cases au:i<k
  . (have k0 : (0 : Int) <= (i : Int) := by omega);have k1:(i:Int)<(k:Int):=U0;by_cases an:i<zs.length
    . (have k2 : (i : Int) < (zs.length : Int) := by omega);have av:IntKind.i64.wrap ((i:Int)+1)=(i:Int)+1:=IntWalk.i64_in _ U0;obtain ⟨bz,oz,rfl,aq,al⟩:=(HZ.out.keep b.out.below).at_ (k:=i) an;generalize zs.getD i 0=x at *;obtain ⟨y,hy,ao⟩:=u.out x;(have O:Hid (∀ W:World,zC 22 #[Ch p m A n c,Y x] W fun e w'=>e=.returned (Y (y:Int))/\Below W.heap.size W w'):=fun W=>by rw [<- hy];exact B.out x W);clear hy B u N;generalize zs.length=aw at *;have Q:Hid (OSc w (Ca p m A n c ax Ah k ch) bz oz i x wr.drew):=⟨b.out.grow (Below.refl _ _).drew,al⟩;have H:=zH (v.out.below (Below.refl _ wr).drew v.out.lt.2);go_upto_region 5 with fail;refine qaS 9 9 (OSc w (Ca p m A n c ax Ah k ch) bz oz i x) [(1,0),(1,1),(1,2),(0,3),(1,4),(1,5),(1,6),(0,7),(2,8)] default U1 U1 (fun _ _ d _ _ h=>by cases d <;> exact h) Q.out ?_;generalize wr.drew=Wd at *;simp only [List.map_cons,List.map_nil,List.getD_cons_zero,List.getD_cons_succ]
      iterate 3
       apply qaM rfl
       . intro W
         go_simp
         rfl
       go_simp
      refine qaT rfl 29 (.tmp 25) rfl w.heap.size 0 rfl (Ci p m A n c) _ (fun W V=>V.1.field) Tryz.underlying29 rfl fieldSize ?_;go_simp
      iterate 3
       apply qaM rfl
       . intro W
         go_simp
         rfl
       go_simp
      apply qbF rfl
      . intro W V;have z0:=V.2;go_simp;rfl
      go_simp;apply qbE rfl
      . go_simp;exact⟨rfl,rfl⟩
      (with_reducible refine(O.out Wd).mono ?_);rintro e w2 ⟨rfl,hb2⟩;have S:=zH (Q.out.1.grow hb2);have I:=zH (H.out.below hb2 H.out.lt.2);have Z:w2.cell? (zA bz (oz+i))=some (Y x):=(hb2.cell (p:=(zA bz (oz+i))) (World.block_lt_of_cell? Wd _ Q.out.2)).trans Q.out.2;refine⟨_,rfl,⟨S.out,Z⟩,?_⟩;go_simp;refine qbH ?_;show wpList _ _ _ _ _ _;go_simp;have f0:=I.out.frozen i;have c0:=I.out.cell (j:=i) (by rw[qaA];omega);have P:=zH (I.out.set i (y:Int));rw[qbC] at P;have ak:=zH (S.out.wrote (k:=i) ah.out (Y (y:Int)));have ai:Hid (∀z∈l.set i y,z<q):=fun z hz=>(List.mem_or_eq_of_mem_set hz).elim (r.out z) (fun h=>h ▸ ao);clear hb2 Z Q H O v b;go_wp2_with fail;go_roundw;case rel=>exact⟨i+1,l.set i y,U0,gn,ak.out,P.out,by rw[List.length_set];exact s,ai.out⟩
      case measure=>exact mE
    . (have k2:¬(i:Int)<(zs.length:Int):=by omega);have J:=zH b.out.field;have c3:wr.cell? (zA w.heap.size 3)=some (Y (ax:Int)):=b.out.cell rfl;have c4:wr.cell? (zA w.heap.size 4)=some (zL Ah k ch):=b.out.cell rfl;have o:=zH (N.out l go wr b.out.below v.out r.out s);have aj:=zH (v.out.lt);clear N v u B HZ;go_wp2_with (refine wpList_load_mid rfl 29 (.tmp 33) rfl w.heap.size 0 rfl (Ci p m A n c) _ J.out Tryz.underlying29 rfl fieldSize ?_);refine o.out.mono ?_;rintro e w3 ⟨⟨g3,rfl,hr3,hl3,_⟩,hb3⟩;have f:=zH (b.out.below.trans (hb3.mono b.out.below.size));have K:=zH (hr3.base (Nat.le_trans b.out.below.size hr3.lt.1));have E:=zH hl3;clear hb3 hr3 hl3 o;go_wp2_with fail;go_ret;exact⟨⟨g3,l,rfl,s,r.out,K.out,E.out⟩,f.out⟩
  . (have k1:¬(i:Int)<(k:Int):=by omega);have J:=zH b.out.field;have c3:wr.cell? (zA w.heap.size 3)=some (Y (ax:Int)):=b.out.cell rfl;have c4:wr.cell? (zA w.heap.size 4)=some (zL Ah k ch):=b.out.cell rfl;have o:=zH (N.out l go wr b.out.below v.out r.out s);have aj:=zH (v.out.lt);clear N v u B HZ;go_wp2_with (refine wpList_load_mid rfl 29 (.tmp 33) rfl w.heap.size 0 rfl (Ci p m A n c) _ J.out Tryz.underlying29 rfl fieldSize ?_);refine o.out.mono ?_;rintro e w3 ⟨⟨g3,rfl,hr3,hl3,_⟩,hb3⟩;have f:=zH (b.out.below.trans (hb3.mono b.out.below.size));have K:=zH (hr3.base (Nat.le_trans b.out.below.size hr3.lt.1));have E:=zH hl3;clear hb3 hr3 hl3 o;go_wp2_with fail;go_ret;exact⟨⟨g3,l,rfl,s,r.out,K.out,E.out⟩,f.out⟩
end Go.Proofs.YtndipkplnkfoeaaGreat
