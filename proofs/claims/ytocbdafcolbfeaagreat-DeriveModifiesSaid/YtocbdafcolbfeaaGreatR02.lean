/- Parts of the proof. -/
import Derived.WalkLawsBesides
import Derived.WalkSpells
import Derived.Test.YtocbdafcolbfeaaGreatR01
import Derived.Deep.AppendLies
import Derived.StillTailTactics
import Derived.Laws.CopyOwn
import Derived.Deep.RegionHeld3
import Derived.Deep.DeepCutAuto
set_option maxRecDepth 100000
set_option maxHeartbeats 8000000
namespace Go.Proofs.YtocbdafcolbfeaaGreat
open Go.RowKit Tryz
def orderM(p m:Int):Int:=if p<2\/256<p\/m<1\/8<m then 0 else if 256<p.toNat^m.toNat then 0 else((p.toNat^m.toNat:Nat):Int)
theorem qbQ{p m:Int}(h:p<2\/256<p\/m<1\/8<m):orderM p m=0:=by unfold orderM;rw[if_pos h]
theorem qbX{p m:Nat}(f:2<=p)(c:p<=256)(d:1<=m)(b:m<=8):orderM p m=if 256<p^m then 0 else((p^m:Nat):Int):=by unfold orderM;rw[if_neg U0];rfl
theorem qbZ{p k m:Nat}(b:2<=p)(h:k<=m):p^k<=p^m:=Nat.pow_le_pow_right U0 h
theorem qcX(p m:Int)(w:Wo):zC 96 #[Y p,Y m] w fun e w'=>e=.returned (Y (orderM p m))/\w=w':=by
 by_cases g:p<2
 . have b:=zH (qbQ (p:=p) (m:=m) (.inl g));go_enter func96,ntmps96;go_wp2;go_ret;exact⟨qaG b.o.symm,rfl⟩
 . by_cases d : 256 < p
   . have b:=zH (qbQ (p:=p) (m:=m) (.inr (.inl d)));go_enter func96,ntmps96;go_wp2;go_ret;exact⟨qaG b.o.symm,rfl⟩
   . by_cases s : m < 1
     . have b:=zH (qbQ (p:=p) (m:=m) (.inr (.inr (.inl s))));go_enter func96,ntmps96;go_wp2;go_ret;exact⟨qaG b.o.symm,rfl⟩
     . by_cases t : 8 < m
       . have b:=zH (qbQ (p:=p) (m:=m) (.inr (.inr (.inr t))));go_enter func96,ntmps96;go_wp2;go_ret;exact⟨qaG b.o.symm,rfl⟩
       . obtain ⟨p,rfl⟩ := Int.eq_ofNat_of_zero_le (by omega : 0 <= p);obtain ⟨m,rfl⟩:=Int.eq_ofNat_of_zero_le (by omega:0<=m);have n:2<=p:=U0;have c:p<=256:=U0;have x:1<=m:=U0;have h:m<=8:=U0;have l:=zH (qbX n c x h);go_enter func96,ntmps96;go_wp2;go_loop [5,21] (fun a i=>∃ k:Nat,k<=m/\p ^ k<=256/\i=Y k/\a=Y ((p ^ k:Nat):Int)) (fun _ i=>m-(intOf i).toNat);case atStart=>exact ⟨0,U0,U2,rfl,U2⟩
         case round =>
          obtain⟨k,B,y,rfl,rfl⟩:=hrel;by_cases v:k<m
          . have f : zK (p ^ (k + 1) = p ^ k * p) := Nat.pow_succ _ _;have r:=zH (qbZ n (show k+1<=m by omega));generalize p ^ k=q at *;(have z:(q:Int)*(p:Int)<=65536:=by have:q*p<=256*256:=Nat.mul_le_mul y c;have d:((q*p:Nat):Int)=(q:Int)*(p:Int):=Int.natCast_mul _ _;omega);have u:0<=(q:Int)*(p:Int):=Int.mul_nonneg U0 U0;by_cases A:256<(q:Int)*(p:Int)
            . go_wp2;go_ret;refine⟨qaG ?_,rfl⟩;rw[l.o,if_pos];have g:=r.o;rw[f.o] at g;have d:((q*p:Nat):Int)=(q:Int)*(p:Int):=Int.natCast_mul _ _;omega
            . go_wp2;go_round;case rel=>exact⟨k+1,U0,by rw[f.o];have d:((q*p:Nat):Int)=(q:Int)*(p:Int):=Int.natCast_mul _ _;omega,gn,by rw[f.o,Int.natCast_mul]⟩
              case measure=>simp[intOf];omega
          . (obtain rfl:k=m:=by omega);generalize j:p^k=q at *;clear j;go_wp2;go_ret;exact⟨qaG (by rw[l.o,if_neg U0]),rfl⟩
def primeP(n:Nat):Bool:=Nat.ble 2 n && Pln.primeB n
theorem qfI(n:Nat):primeP n=true ↔ (2<=n/\∀ d,2<=d->d*d<=n->n % d≠0):=by
 unfold primeP Pln.primeB;rw[Bool.and_eq_true,Nat.ble_eq,List.all_eq_true];constructor
 . rintro⟨f,c⟩;refine⟨f,fun d hd hdd hz=>?_⟩;(have b:d<n:=by have:2*d<=d*d:=Nat.mul_le_mul_right d hd;omega);have:=c d (List.mem_range.2 b);simp only[Bool.or_eq_true,Nat.blt_eq,bne_iff_ne,ne_eq] at this;rcases this with h|h
   . omega
   . exact h hz
 . rintro ⟨f,c⟩;refine ⟨f,fun d hd=>?_⟩;have b:=List.mem_range.1 hd;simp only [Bool.or_eq_true,Nat.blt_eq,bne_iff_ne,ne_eq];by_cases i:d<2
   . exact .inl i
   . refine .inr fun hz => ?_;by_cases j:d*d<=n
     . exact c d U0 j hz
     . (have e : n = d * (n / d) := by have := Nat.div_add_mod n d;omega);generalize n / d=t at e;(have l:t<d:=by refine Nat.lt_of_not_le fun hge=>?_;have:=Nat.mul_le_mul_left d hge;omega);have g:2<=t:=by
        rcases t with _|_|t
        . omega
        . omega
        . omega
       (have k:t*t<=n:=by rw[e];exact Nat.mul_le_mul_right t U0);exact c t g k (by rw[e];exact Nat.mul_mod_left d t)
theorem primeP_false{n:Nat}(h:¬(2<=n/\∀d,2<=d->d*d<=n->n % d≠0)):primeP n=false:=by rw[<- Bool.not_eq_true,qfI];exact h
theorem isPrime_c(n:Nat)(y:n<=256)(w:Wo):zC 153 #[Y n] w fun e w'=>e=.returned (.bool (primeP n))/\w=w':=by
 go_enter func153,ntmps153;go_wp2;go_loop [3] (fun i=>∃d:Nat,2<=d/\d<=257/\i=Y d/\∀e,2<=e->e<d->e*e<=n->n % e≠0) (fun i=>300-(intOf i).toNat);case atStart=>exact⟨2,U0,U0,rfl,fun e h1 g=>U0⟩
 case round =>
  obtain⟨d,hd,j,rfl,k⟩:=hrel;have f:=zH k;clear k;have v:(d:Int)*(d:Int)<=66049:=by have:d*d<=257*257:=Nat.mul_le_mul j j;have g:((d*d:Nat):Int)=(d:Int)*(d:Int):=Int.natCast_mul _ _;omega
  have s:0<=(d:Int)*(d:Int):=Int.mul_nonneg U0 U0;have p:d<=d*d:=Nat.le_mul_of_pos_left d U0;have b:((d*d:Nat):Int)=(d:Int)*(d:Int):=Int.natCast_mul _ _;have r:=zH b;clear b;by_cases x:(d:Int)*(d:Int)<=(n:Int)
  . (have m : d * d <= n := by have := r.o;omega);by_cases c:(n:Int) % (d:Int)=0
    . have l:=zH c;(have q:((n:Int) % (d:Int)==0)=true:=by rw[c];rfl);clear c;go_wp2;go_ret;refine⟨qaN ?_,rfl⟩;refine(primeP_false ?_).symm;rintro⟨_,h⟩;exact h d hd m (by have:=l.o;omega)
    . have l := zH c;(have q:((n:Int) % (d:Int)==0)=false:=by simpa using c);clear c;go_wp2;go_round
      case rel=>exact ⟨d+1,U0,U0,gn,fun e h1 g h3=>by
       by_cases u:e=d
       . subst u
         have:=l.o
         omega
       . exact f.o e h1 U0 h3⟩
      case measure=>simp[intOf];omega
  . by_cases g : 2 <= n
    . go_wp2;go_ret;refine⟨qaN ?_,rfl⟩;refine Eq.trans ?_ ((qfI n).2 ⟨g,fun e h3 h4=>?_⟩).symm
      . simp;omega
      . have t:=r.o;refine f.o e h3 ?_ h4;refine Nat.lt_of_not_le fun hge=>?_;have:d*d<=e*e:=Nat.mul_le_mul hge hge;omega
    . go_wp2;go_ret;refine⟨qaN ?_,rfl⟩;refine Eq.trans ?_ (primeP_false (fun h3=>absurd h3.1 g)).symm;simp;omega
def nz(l:LN):LI:=l.map fun x:Nat=>(x:Int)
theorem qaA(l:LN):(nz l).length=l.length:=by simp[nz]
theorem qaC(l:LN)(j:Nat):(nz l).getD j 0=((l.getD j 0:Nat):Int):=by unfold nz;simp only[List.getD,List.getElem?_map];cases l[j]?<;>simp
theorem qbC(l:LN)(j x:Nat):(nz l).set j (x:Int)=nz (l.set j x):=by simp[nz,List.map_set]
theorem nz_take(l:LN)(j:Nat):(nz l).take j=nz (l.take j):=by simp[nz,List.map_take]
theorem infoInt:(prog.info? 3).map (fun i=>(i.zero,i.size,i.bytes))=some (some (Y 0),1,8):=U1
theorem qaF{P:Program}{t:TypeId}{z:Option Value}{s b:Nat}(h:(P.info? t).map (fun i=>(i.zero,i.size,i.bytes))=some (z,s,b)):∃i,P.info? t=some i/\i.zero=z/\i.size=s/\i.bytes=b:=by obtain⟨i,d,c⟩:=Option.map_eq_some_iff.1 h;simp only[Prod.mk.injEq] at c;exact⟨i,d,c.1,c.2.1,c.2.2⟩
theorem qaL{w w':Wo}(h:w.grownBy w' none):zB w w':=⟨h.os,h.tape,h.output,h.size,fun k hk=>h.block k hk U2⟩
def Row(w:Wo)(B g c:Nat)(zs:LI):Prop:=w.ownsRow B 3 1 (zS g zs.length c) zs.length (zs.map (Value.int .i64))
section
variable {w w':Wo} {B g c:Nat} {zs:LI}
theorem Row.cell(h:Row w B g c zs){j:Nat}(b:j<zs.length):w.cell? (zA g j)=some (Y (zs.getD j 0)):=by rw[World.ownsRow.cellAt h j U0];simp[List.getD,b]
theorem Row.frozen(h:Row w B g c zs)(j:Nat):w.frozen? (zA g j)=false:=World.ownsRow.frozenAt h j
theorem Row.lt(h:Row w B g c zs):B<=g/\g<w.heap.size:=World.ownsRow.lt h g rfl
theorem Row.set(h:Row w B g c zs)(j:Nat)(x:Int):Row (w.setCell (zA g j) (Y x)) B g c (zs.set j x):=by have:=(World.ownsRow.stored h j (Y x)).1;unfold Row;rw[List.length_set,List.map_set];exact this
theorem Row.grown{row:Option Nat}(h:Row w B g c zs)(d:w.grownBy w' row)(b:some g≠row):Row w' B g c zs:=World.ownsRow.kept h d (.inr b)
theorem Row.below(h:Row w B g c zs){B':Nat}(l:Below B' w w')(m:g<B'):Row w' B g c zs:=by
 refine⟨h.1,?_⟩;rcases h.2 with⟨i,_⟩|⟨d,b,cur,f,j,k,r⟩
 . cases i
 . (have:d=g:=by simp only[Value.slice.injEq,Option.some.injEq,Addr.mk.injEq,and_true,true_and] at f;exact f.1.symm);exact .inr ⟨d,b,cur,f,j,(l.block d U0).trans k,r⟩
theorem Row.far(h:Row w B g c zs){p:Addr}(l:g≠p.block)(u:Value):Row (w.setCell p u) B g c zs:=by
 refine⟨h.1,?_⟩;rcases h.2 with⟨i,_⟩|⟨d,b,cur,f,j,k,r⟩
 . cases i
 . (have:d=g:=by simp only[Value.slice.injEq,Option.some.injEq,Addr.mk.injEq,and_true,true_and] at f;exact f.1.symm);exact .inr ⟨d,b,cur,f,j,(Below.heap_setCell w p u d U0).trans k,r⟩
theorem Row.alloc(h:Row w B g c zs)(o:Obj):Row (w.alloc o) B g c zs:=World.ownsRow.alloc h o
theorem Row.base{B':Nat}(h:Row w B g c zs)(l:B'<=g):Row w B' g c zs:=by
 refine⟨h.1,?_⟩;rcases h.2 with⟨i,_⟩|⟨f,b,cur,d,k,j,r⟩
 . cases i
 . (have:f=g:=by simp only[Value.slice.injEq,Option.some.injEq,Addr.mk.injEq,and_true,true_and] at d;exact d.1.symm);exact .inr ⟨f,b,cur,d,U0,j,r⟩
theorem Row.cur(h:Row w B g c zs):∃cur:List Value,w.heap[g]?=some (.cells cur.toArray 3 (0,0))/\zs.length<=cur.length/\cur.take zs.length=zs.map (Value.int .i64)/\
 ∀(w':Wo)(cur':List Value)(zs':LI),w'.heap[g]?=some (.cells cur'.toArray 3 (0,0))->cur'.length=cur.length->zs'.length=zs.length->cur'.take zs.length=zs'.map (Value.int .i64)->Row w' B g c zs':=by
 rcases h.2 with⟨d,_⟩|⟨n,f,cur,m,k,l,d,i,o,j⟩
 . cases d
 . have b:=m;simp only[Value.slice.injEq,Option.some.injEq,Addr.mk.injEq,and_true,true_and] at b;obtain⟨rfl,rfl⟩:=b;refine⟨cur.toList,by simpa using l,so,by simpa using j,fun w' cur' zs' e1 e2 e3 e4=>⟨by simp[e3],.inr ⟨g,c,cur'.toArray,by rw[e3],k,e1,U0,i,by simp[e2];omega,?_⟩⟩⟩;rw[e3];simpa using e4
theorem Row.of_make{n:Nat}(h:w.ownsRow B 3 1 (zS g n c) n (madeCells (Y 0).cells (n*1)).toList):Row w B g c (nz (List.replicate n 0)):=by
 unfold Row;have e:(madeCells (Y 0).cells (n*1)).toList=(nz (List.replicate n 0)).map (Value.int .i64):=by
  apply List.ext_getElem
  . simp[madeCells,nz]
  . intro i b d;simp[madeCells,nz,Value.cells,Nat.mod_one]
 rw[qaA,List.length_replicate,<- e];exact h
end
def IntsAt(w:Wo)(B:Nat)(A:OA)(zs:LI):Prop:=
 0<zs.length->∃b o,A=some (zA b o)/\b<B/\∀j,j<zs.length->w.cell? (zA b (o+j))=some (Y (zs.getD j 0))
abbrev zI(w:World)(A:OA)(l:LI):Prop:=IntsAt w w.heap.size A l
theorem IntsAt.keep{w w':Wo}{B:Nat}{A:OA}{zs:LI}(h:IntsAt w B A zs)(f:Below B w w'):IntsAt w' B A zs:=fun hz=>by
 obtain⟨b,o,e,c,d⟩:=h hz
 exact⟨b,o,e,c,fun j hj=>(f.cell (p:=(zA b (o+j))) c).trans (d j hj)⟩
theorem IntsAt.more{w:Wo}{B B':Nat}{A:OA}{zs:LI}(h:IntsAt w B A zs)(f:B<=B'):IntsAt w B' A zs:=fun hz=>by
 obtain⟨b,o,e,d,c⟩:=h hz
 exact⟨b,o,e,U0,c⟩
theorem IntsAt.grow{w w':Wo}{B:Nat}{A:OA}{zs:LI}(h:IntsAt w B A zs)(b:B<=w.heap.size)(d:zB w w'):IntsAt w' B A zs:=h.keep (d.mono b)
theorem IntsAt.at_{w:Wo}{B:Nat}{A:OA}{zs:LI}(h:IntsAt w B A zs){k:Nat}(f:k<zs.length):∃b o,A=some (zA b o)/\b<B/\w.cell? (zA b (o+k))=some (Y (zs.getD k 0)):=by obtain⟨b,o,e,c,d⟩:=h U0;exact⟨b,o,e,c,d k f⟩
theorem Row.ints{w:Wo}{B g c B':Nat}{zs:LI}(h:Row w B g c zs)(b:g<B'):IntsAt w B' (zO g) zs:=fun _=>
 ⟨g,0,rfl,b,fun j hj=>by rw[Nat.zero_add];exact h.cell hj⟩
end Go.Proofs.YtocbdafcolbfeaaGreat
namespace Go.Proofs.YtocbdafcolbfeaaGreat
open Go.RowKit Pln Tryz
theorem digs_snoc(p:Nat):∀ k x,digs p (k+1) x=digs p k x++[x / p ^ k % p]
 |0,x=>by simp[digs]
 |k + 1,x=>by
   have:=digs_snoc p k (x / p)
   rw[digs,this]
   simp only[digs,List.cons_append]
   rw[Nat.div_div_eq_div_mul,Nat.pow_succ,Nat.mul_comm p]
def dgK(p m x k:Nat):LN:=digs p k x++List.replicate (m-k) 0
theorem dgK_set(p m x k:Nat)(b:k<m):(dgK p m x k).set k (x / p^k % p)=dgK p m x (k+1):=by unfold dgK;rw[digs_snoc];rw[List.set_append_right _ _ (by rw[qaK];exact Nat.le_refl _),qaK,Nat.sub_self,show m-k=(m-(k+1))+1 by omega,List.replicate_succ];simp
theorem dgK_len(p m x k:Nat)(b:k<=m):(dgK p m x k).length=m:=by simp[dgK,qaK];omega
def RelDig(w:Wo)(p m x:Nat)(v0 v13:Value)(wr:Wo):Prop:=
 ∃k,k<=m/\v0=Y ((x / p^k:Nat):Int)/\v13=Y k/\Row wr w.heap.size w.heap.size m (nz (dgK p m x k))/\zB w wr
theorem qdD(x p m:Nat)(w:Wo)(R:x<=1000000000)(T:1<=p)(Q:p<=1000000000)(S:m<=1000):
 zC 199 #[Y x,Y p,Y m] w fun e w'=>e=.returned (zS w.heap.size m m)/\Row w' w.heap.size w.heap.size m (nz (digs p m x))/\zB w w':=by
 obtain⟨D,C,n,q,r⟩:=qaF infoInt;have H:=zH C;have z:=zH n;have A:=zH q;have t:=zH (show D.bytes*m<=281474976710656 by rw[r];omega);have u:=zH (show m<=maxLen by unfold maxLen;omega);clear C n q r;go_enter func199,ntmps199;go_wp2_with (refine wpList_make_full w rfl (.tmp 9) (.tmp 9) 23 rfl w.heap.size 3 D (Y 0) 1 underlying23 H.o z.o A.o .i64 .i64 m m m rfl rfl rfl rfl t.o u.o zn ?_;intro P d i);have v:=zH (Row.of_make d);have s:=zH (qaL i);clear d i;go_loopw [0,13] (fun v0 v13 wr=>RelDig w p m x v0 v13 wr) (fun _ v13 _=>m-(intOf v13).toNat);case atStart=>exact⟨0,U0,U2,rfl,v.o,s.o⟩
 case round =>
  obtain⟨k,K,rfl,rfl,b,B⟩:=hrel;have g:=zH b;have c:=zH B;have O:=b.frozen k;have E:zK (x / p^(k+1)=x / p^k / p):=by rw[Nat.pow_succ,<- Nat.div_div_eq_div_mul];rfl
  have J:x / p^k<=1000000000:=Nat.le_trans (Nat.div_le_self _ _) R;have I:=zH (fun h=>dgK_set p m x k h);have f:=zH (dgK_len p m x k K);by_cases l:k<m
  . have N:=b.cell (j:=k) (by rw[qaA,f.o];exact l);clear b B v s;generalize x / p^k=y at *;have L:0<=(y:Int) / (p:Int):=Int.ediv_nonneg U0 U0;have M:(y:Int) / (p:Int)<=(y:Int):=Int.ediv_le_self _ U0;go_wp2;go_roundw;case rel=>refine⟨k+1,U0,by rw[E.o];go_num,gn,?_,(c.o.setCell zn _)⟩;rw[<- I.o l,<- qbC];exact g.o.set k _
    case measure=>simp[intOf];omega
  . (obtain rfl:k=m:=by omega);clear b B v s;generalize x / p^k=y at *;go_wp2;go_ret;refine⟨rfl,?_,c.o⟩;have:=g.o;unfold dgK at this;rw[Nat.sub_self,List.replicate_zero,List.append_nil] at this;exact this
theorem val_drop(p:Nat)(l:LN)(k:Nat)(b:k<l.length):val p (l.drop k)=val p (l.drop (k+1))*p+l.getD k 0:=by rw[List.drop_eq_getElem_cons b,val,Nat.mul_comm,Nat.add_comm];simp[List.getD,b]
theorem val_drop_lt{p:Nat}(c:0<p){l:LN}(b:∀d∈l,d<p)(k:Nat):val p (l.drop k)<p^(l.length-k):=by have:=val_lt c (l.drop k) (fun d hd=>b d (List.mem_of_mem_drop hd));rwa [List.length_drop] at this
theorem valueOf_c(A:OA)(l:LN)(c p:Nat)(w:Wo)(x:zI w A (nz l))(C:1<=p)(B:∀ d∈l,d<p)(H:p ^ l.length<=1000000000)(E:p<=1000000000)(D:l.length<=1000):
 zC 200 (D6 A l.length c p) w fun e w'=>e=.returned (Y ((val p l:Nat):Int))/\w=w':=by
 have n:=zH x;have q:=zH B;clear x B;go_enter func200,ntmps200;go_wp2;go_loop [5,6] (fun v5 v6=>∃k:Nat,k<=l.length/\v6=Y ((k:Int)-1)/\v5=Y ((val p (l.drop k):Nat):Int)) (fun _ v6=>(intOf v6+1).toNat);case atStart=>exact⟨l.length,Nat.le_refl _,rfl,by simp[val]⟩
 case round =>
  obtain⟨k,v,rfl,rfl⟩:=hrel;rcases k with _|k
  . go_wp2;go_ret;exact⟨qaG U2,rfl⟩
  . obtain⟨b,o,rfl,s,r⟩:=n.o.at_ (k:=k) (by rw[qaA];omega);rw[qaC] at r;have m:=zH (val_drop p l k U0);have i:=val_drop_lt C q.o k;have j:p^(l.length-k)<=p^l.length:=Nat.pow_le_pow_right C U0;have f:val p (l.drop k)<=1000000000:=U0;(have h:val p (l.drop (k+1))*p+l.getD k 0<=1000000000:=by rw[<- m.o];exact f);generalize val p (l.drop (k+1))=y at *;generalize l.getD k 0=z at *;(have u:(y:Int)*(p:Int)+(z:Int)<=1000000000:=by(have:((y*p+z:Nat):Int)=(y:Int)*(p:Int)+(z:Int):=by rw[Int.natCast_add,Int.natCast_mul]);omega);have t:0<=(y:Int)*(p:Int):=Int.mul_nonneg U0 U0;have g:((k+1:Nat):Int)-1=(k:Int):=U0;rw[g];clear i j f h;go_wp2;go_round;case rel=>exact⟨k,U0,rfl,by rw[m.o,Int.natCast_add,Int.natCast_mul]⟩
    case measure=>simp[intOf]
theorem valueOf_n(A:OA)(l:LN)(n c p:Nat)(w:Wo)(g:zI w A (nz l))(i:1<=p)(h:Pln.Dig p n l)(j:p^n<=1000000000)(f:p<=1000000000)(d:n<=1000):
 zC 200 (D6 A n c p) w fun e w'=>e=.returned (Y ((val p l:Nat):Int))/\w=w':=by obtain⟨rfl,b⟩:=h;exact valueOf_c A l c p w g i b j f d
def ModAt(w:Wo)(B m:Nat)(A:OA)(n:Nat)(md:LN):Prop:=(m=1/\md=[0])\/(1<m/\n=m/\md.length=m/\IntsAt w B A (nz md))
theorem ModAt.keep{w w':Wo}{B m:Nat}{A:OA}{n:Nat}{md:LN}(h:ModAt w B m A n md)(b:Below B w w'):ModAt w' B m A n md:=by
 rcases h with h|⟨h1,h2,h3,h4⟩
 . exact .inl h
 . exact .inr ⟨h1,h2,h3,h4.keep b⟩
theorem ModAt.more{w:Wo}{B B' m:Nat}{A:OA}{n:Nat}{md:LN}(h:ModAt w B m A n md)(b:B<=B'):ModAt w B' m A n md:=by
 rcases h with h|⟨h1,h2,h3,h4⟩
 . exact .inl h
 . exact .inr ⟨h1,h2,h3,h4.more b⟩
theorem ModAt.len{w:Wo}{B m:Nat}{A:OA}{n:Nat}{md:LN}(h:ModAt w B m A n md):md.length=m:=by
 rcases h with⟨rfl,rfl⟩|⟨_,_,h,_⟩
 . rfl
 . exact h
structure Small (p m:Nat):Prop where
 p1:2<=p
 p2:p<=256
 m1:1<=m
 m2:m<=8
 q:p^m<=256
def CutAB(w W0:Wo)(p m x y:Nat)(v7 v8:Value)(wx:Wo):Prop:=
 ∃ga gb,v7=zS ga m m/\v8=zS gb m m/\Row wx (w.heap.size+1) ga m (nz (digs p m x))/\Row wx (w.heap.size+1) gb m (nz (digs p m y))/\Below (w.heap.size+1) W0 wx
def MInv(w W0:Wo)(m ga gb go:Nat)(a b out:LN)(wr:Wo):Prop:=
 Row wr (w.heap.size+1) ga m (nz a)/\Row wr (w.heap.size+1) gb m (nz b)/\Row wr (w.heap.size+1) go m (nz out)/\ga<go/\gb<go/\Below (w.heap.size+1) W0 wr
def RelM(w W0:Wo)(p m:Nat)(md:LN)(ga gb go:Nat)(a b:LN)(v10:Value)(wr:Wo):Prop:=
 ∃k:Nat,k<=m/\v10=Y ((k:Int)-1)/\MInv w W0 m ga gb go a b (mulL p m md a (b.drop k)) wr
theorem MInv.set{w o:Wo}{m q r l:Nat}{a b n:LN}{wr:Wo}(h:MInv w o m q r l a b n wr)(j x:Nat):MInv w o m q r l a b (n.set j x) (wr.setCell (zA l j) (Y x)):=by obtain⟨g,i,c,d,f,k⟩:=h;refine⟨g.far (p:=(zA l j)) (Nat.ne_of_lt d) _,i.far (p:=(zA l j)) (Nat.ne_of_lt f) _,?_,d,f,k.setCell c.lt.1 _⟩;rw[<- qbC];exact c.set j x
def CopyInv(w W0:Wo)(m ga gb go:Nat)(a b out:LN)(wr:Wo):Prop:=MInv w W0 m ga gb go a b ((out.getD 0 0):: out.take (m-1)) wr
theorem mulL_drop(p m:Nat)(md a b:LN)(k:Nat)(c:k<b.length):mulL p m md a (b.drop k)=stepM p m md a (b.getD k 0) (mulL p m md a (b.drop (k+1))):=by
 rw[List.drop_eq_getElem_cons c];have:b.getD k 0=b[k]:=by simp[List.getD,c]
 rw[this];rfl
theorem sizeInt:(prog.info? 3).map (·.size)=some 1:=U1
theorem copy_src{w:Wo}{B g c:Nat}{zs:LI}(h:Row w B g c zs){n j:Nat}{v:Value}(f:((zs.take n).map (Value.int .i64))[j]?=some v):w.cell? ((⟨g,0,none⟩:Addr).add j)=some v:=by
 have b:j<zs.length:=by have:=(List.getElem?_eq_some_iff.1 f).1;simp at this;omega
 have e:(⟨g,0,none⟩:Addr).add j=(zA g j):=by rw[Addr.add_mid];simp
 rw[e,h.cell b];rw[List.getElem?_map,List.getElem?_take] at f;by_cases d:j<n
 . rw[if_pos d,List.getElem?_eq_getElem b] at f;simp only[Option.map_some] at f;rw[<- f];simp[List.getD,b]
 . rw[if_neg d] at f;cases f
theorem copy_inv{w C:Wo}{p m D E v:Nat}{a b r:LN}{wr y:Wo}{cur cs:List Value}(h:MInv w C m D E v a b r wr)(s:Dig p m r)(I:1<=m)(A:m<=cur.length)(t:cur.take (nz r).length=(nz r).map (Value.int .i64))(B:∀ (w':Wo)(cur':List Value)(zs':LI),w'.heap[v]?=some (.cells cur'.toArray 3 (0,0))->cur'.length=cur.length->zs'.length=(nz r).length->cur'.take (nz r).length=zs'.map (Value.int .i64)->Row w' (w.heap.size+1) v m zs')(x:((nz r).take (m-1)).map (Value.int .i64)=cs)(H:y.heap[v]?=some (.cells (splice cur 1 cs).toArray 3 (0,0)))(z:Below v wr y):CopyInv w C m D E v a b r y:=by
 obtain⟨j,k,l,f,g,q⟩:=h;have d:=l.lt;have i:cs.length=m-1:=by rw[<- x,List.length_map,List.length_take,qaA,s.1];omega
 refine⟨j.below z f,k.below z g,?_,f,g,q.trans (z.mono d.1)⟩;refine B y _ _ H (length_splice _ _ _ U0) ?_ ?_
 . rw[qaA,qaA,s.1];simp[s.1];omega
 . rw [qaA,s.1] at t ⊢;unfold splice;obtain ⟨n,rfl⟩:∃ n,m=n+1:=⟨m-1,U0⟩;have c:=s.1;match r,c with
   | o :: os,c =>
     match cur,A with
     |u :: us,_=>
       simp only[List.take_succ_cons,nz,List.map_cons,List.cons.injEq] at t
       simp only[List.take_succ_cons,List.take_zero,List.cons_append,List.nil_append,List.getD_cons_zero,Nat.add_sub_cancel]
       rw[List.take_append_of_le_length U0,List.take_of_length_le U0,<- x,t.1,nz_take]
       simp[nz]
def innK(p m:Nat)(md a:LN)(bi:Nat)(out:LN)(j:Nat):LN:=(stepM p m md a bi out).take j++(0 :: out.take (m-1)).drop j
def RelI(w W0:Wo)(p m:Nat)(md:LN)(ga gb go:Nat)(a b:LN)(bi:Nat)(out:LN)(v54:Value)(wr:Wo):Prop:=
 ∃j:Nat,j<=m/\v54=Y j/\MInv w W0 m ga gb go a b (innK p m md a bi out j) wr
theorem qcK(p m:Nat)(md a:LN)(bi:Nat)(b:LN):(stepM p m md a bi b).length=m:=by simp[stepM]
theorem stepM_at(p m:Nat)(md a:LN)(bi:Nat)(b:LN)(j:Nat)(c:j<m):(stepM p m md a bi b).getD j 0=((if j=0 then 0 else b.getD (j-1) 0)+(p-b.getD (m-1) 0)*md.getD j 0+bi*a.getD j 0) % p:=by simp[stepM,List.getD,c]
theorem shl_len{m:Nat}{b:LN}(h:b.length=m)(c:1<=m):(0 :: b.take (m-1)).length=m:=by simp[h];omega
theorem innK_len{p m:Nat}{md a:LN}{bi:Nat}{b:LN}{j:Nat}(d:j<=m)(c:1<=m)(h:b.length=m):(innK p m md a bi b j).length=m:=by unfold innK;rw[List.length_append,List.length_take,List.length_drop,qcK,shl_len h c];omega
theorem innK_at(p m:Nat)(md a:LN)(bi:Nat)(c:LN)(j:Nat)(d:j<m)(h:c.length=m):(innK p m md a bi c j).getD j 0=if j=0 then 0 else c.getD (j-1) 0:=by
 unfold innK;have b:((stepM p m md a bi c).take j).length=j:=by rw[List.length_take,qcK];omega
 simp only[List.getD];rw[List.getElem?_append_right U0,b,Nat.sub_self,List.getElem?_drop,Nat.add_zero];rcases j with _|j
 . simp
 . simp only[List.getElem?_cons_succ,Nat.add_sub_cancel,if_neg (Nat.succ_ne_zero j)];rw[List.getElem?_take,if_pos U0]
theorem innK_set(p m:Nat)(md a:LN)(bi:Nat)(d:LN)(j:Nat)(f:j<m)(h:d.length=m):(innK p m md a bi d j).set j ((stepM p m md a bi d).getD j 0)=innK p m md a bi d (j+1):=by
 unfold innK;have b:((stepM p m md a bi d).take j).length=j:=by rw[List.length_take,qcK];omega
 have c:=shl_len h U0;rw[List.set_append_right _ _ U0,b,Nat.sub_self];rw[List.drop_eq_getElem_cons (i:=j) U0,List.set_cons_zero];rw[List.take_succ_eq_append_getElem (by rw[qcK];exact f),List.append_assoc];have:(stepM p m md a bi d).getD j 0=(stepM p m md a bi d)[j]'(by rw[qcK];exact f):=by rw[List.getD_eq_getElem?_getD,List.getElem?_eq_getElem (by rw[qcK];exact f)];rfl
 rw[this];rfl
theorem innK_end(p m:Nat)(md a:LN)(bi:Nat)(b:LN)(h:b.length=m)(c:1<=m):innK p m md a bi b m=stepM p m md a bi b:=by unfold innK;rw[List.take_of_length_le (by rw[qcK];exact Nat.le_refl _),List.drop_of_length_le (Nat.le_of_eq (shl_len h c)),List.append_nil]
theorem qaY(a b:Nat):Int.tmod (a:Int) (b:Int)=((a % b:Nat):Int):=by rw[Int.tmod_eq_emod_of_nonneg U0];rfl
theorem mul_le_256{a b:Nat}(d:a<=256)(f:b<=256):0<=(a:Int)*(b:Int)/\(a:Int)*(b:Int)<=65536:=by have:a*b<=256*256:=Nat.mul_le_mul d f;have c:((a*b:Nat):Int)=(a:Int)*(b:Int):=Int.natCast_mul _ _;omega
theorem MInv.drew{w l:Wo}{m n o p:Nat}{a b k:LN}{wr:Wo}(h:MInv w l m n o p a b k wr):MInv w l m n o p a b k wr.drew:=by obtain⟨c,d,f,g,i,j⟩:=h;exact⟨c,d,f,g,i,j.drew⟩
theorem multiply_c(p m x y:Nat)(A:OA)(n c:Nat)(md:LN)(w:Wo)(hs:Small p m)(hM:ModAt w w.heap.size m A n md)(ax:∀ d∈md,d<p)(hx:x<p ^ m)(hy:y<p ^ m):
 zC 155 #[C7 p m A n c,Y x,Y y] w fun e w'=>e=.returned (Y ((mulM p m md x y:Nat):Int))/\zB w w':=by
 obtain⟨db,dd,S,da,hq⟩:=hs;obtain⟨i0,hi,bo,bp,bq⟩:=qaF infoInt;have HI:=zH hi;have b9:=zH bo;have cd:=zH bp;have br:=zH (show i0.bytes*m<=281474976710656 by rw[bq];omega);have bs:=zH (show m<=maxLen by unfold maxLen;omega);clear hi bo bp bq;have HM:=zH hM;have a3:=zH hM.len;have b3:=zH ax;clear hM ax;have dh:x<=256:=U0;have di:y<=256:=U0;clear hx hy;go_enter func155,ntmps155;go_upto_region 1 with fail;have a8:zB w (w.alloc (C3 p m A n c)):=zV.alloc zn _;have ac:(w.alloc (C3 p m A n c)).heap[w.heap.size]?=some (C3 p m A n c):=heap_alloc_new _ _;have bn:(w.alloc (C3 p m A n c)).heap.size=w.heap.size+1:=U2;have av:=zH a8;have r:=zH ac;have al:=zH bn;clear a8 ac bn;generalize w.alloc (C3 p m A n c)=C at *;have z0:C.cell? (zA w.heap.size 0)=some (Y p):=cell_of_row _ _ 0 _ _ _ r.o;have z1:C.cell? (zA w.heap.size 1)=some (Y m):=cell_of_row _ _ 1 _ _ _ r.o;go_cut [7,8] (fun v7 v8 wx=>CutAB w C p m x y v7 v8 wx);case first=>
  have cx:w.heap.size<C.heap.size:=by have:=al.o;omega
  go_region_held3 (fun w'=>w'.cell? (zA w.heap.size 0)=some (Y p)/\w'.cell? (zA w.heap.size 1)=some (Y m)/\w.heap.size<w'.heap.size)
   (first|go_keep|(go_split_ands;first|exact⟨(hbd2.cell (p:=(zA w.heap.size 0)) am).trans am,(hbd2.cell (p:=(zA w.heap.size 1)) am).trans am,Nat.lt_of_lt_of_le am hbd2.size⟩|exact⟨(hbd1.cell (p:=(zA w.heap.size 0)) am).trans am,(hbd1.cell (p:=(zA w.heap.size 1)) am).trans am,Nat.lt_of_lt_of_le am hbd1.size⟩))
   (first|((with_reducible refine(qdD x p m _ U0 U0 U0 U0).mono ?_);rintro e V ⟨rfl,hrowa,hbd1⟩)|((with_reducible refine(qdD y p m _ U0 U0 U0 U0).mono ?_);rintro e co ⟨rfl,hrowb,hbd2⟩))
  have hX:CutAB w C p m x y (zS C.heap.size m m) (zS V.heap.size m m) co:=by have e:=al.o;have e1:zB C V:=⟨hbd1.os,hbd1.tape,hbd1.output,hbd1.size,hbd1.block⟩;have r1:Row V C.heap.size C.heap.size m (nz (digs p m x)):=hrowa;have de:=hbd1.size;have l1:=r1.lt;refine⟨_,_,rfl,rfl,(r1.below hbd2 l1.2).base U0,hrowb.base (by have:C.heap.size<=V.heap.size:=e1.size;omega),?_⟩;rw[<- e];exact e1.trans (hbd2.mono e1.size)
  have HX:=zH hX;clear hrowa hrowb hbd1 hbd2 hX;go_wp2;go_meet;exact HX.o
 case rest =>
  obtain⟨M,N,rfl,rfl,T,U,Q⟩:=hcut;have ah:=zH T;have ai:=zH U;have aw:=zH Q;have au:w.heap.size+1<=wc.heap.size:=by have:=Q.size;have:=al.o;omega
  have y1:wc.cell? (zA w.heap.size 1)=some (Y m):=(Q.cell (p:=(zA w.heap.size 1)) (by show w.heap.size < _;omega)).trans z1;clear T U Q z0 z1;go_wp2_with (refine wpList_make_full wc rfl (.tmp 27) (.tmp 27) 23 rfl (w.heap.size+1) 3 i0 (Y 0) 1 underlying23 HI.o b9.o cd.o .i64 .i64 m m m rfl rfl rfl rfl br.o bs.o au ?_;intro w1 ag I;have x1:w1.cell? (zA w.heap.size 1)=some (Y m):=(I.cell y1 U2));have cl:=ah.o.lt.2;have bj:=ai.o.lt.2
  have a1:zK (MInv w C m M N wc.heap.size (digs p m x) (digs p m y) (List.replicate m 0) w1):=
   ⟨ah.o.grown I U2,ai.o.grown I U2,Row.of_make ag,U0,U0,aw.o.grown I au (fun _ h=>by cases h)⟩
  clear ag I cl bj y1 ah ai aw;generalize wc.heap.size=l at *;clear au;clear wc;go_loopw [10] (fun v10 wr=>RelM w C p m md M N l (digs p m x) (digs p m y) v10 wr) (fun v10 _=>(intOf v10+1).toNat);case atStart=>exact⟨m,Nat.le_refl _,U2,by rw[List.drop_of_length_le (by rw[qaK];exact Nat.le_refl _)];exact a1.o⟩
  case round =>
   obtain⟨k,hk,rfl,s⟩:=hrel;have H:=zH s;have q:=zH s.2.2.2.2.2;have d0:wr.cell? (zA w.heap.size 0)=some (Y p):=(q.o.cell (p:=(zA w.heap.size 0)) (by show w.heap.size < _;omega)).trans (cell_of_row _ _ 0 _ _ _ r.o);have d1:wr.cell? (zA w.heap.size 1)=some (Y m):=(q.o.cell (p:=(zA w.heap.size 1)) (by show w.heap.size < _;omega)).trans (cell_of_row _ _ 1 _ _ _ r.o);clear s a1 x1;rcases k with _|k
   . have a5:zK (Row wr (w.heap.size+1) l m (nz (mulL p m md (digs p m x) (digs p m y)))):=H.o.2.2.1;have HD:=zH (qaW (m:=m) (by omega:0<p) md (digs p m x) (digs p m y));have ci:=a5.o.lt.2;have HF:zK (zB w wr):=av.o.trans (q.o.mono (Nat.le_succ _));have HE:zK (mulM p m md x y=val p (mulL p m md (digs p m x) (digs p m y))):=rfl;clear H q;generalize mulL p m md (digs p m x) (digs p m y)=L at *;go_wp2_with fail;(with_reducible refine(valueOf_n (zO l) L m m p wr (a5.o.ints ci) U0 HD.o U0 U0 U0).mono ?_);rintro e w' ⟨rfl,rfl⟩;go_wp2;go_ret;exact⟨qaG (by rw[HE.o]),HF.o⟩
   . (have bd : ((k + 1 : Nat) : Int) - 1 = (k : Int) := by omega);rw [bd];clear bd;have be:k<m:=U0;obtain ⟨T,U,bm,bg,bh,ap⟩:=H.o;have b8:zK (mulL p m md (digs p m x) ((digs p m y).drop k)=stepM p m md (digs p m x) ((digs p m y).getD k 0) (mulL p m md (digs p m x) ((digs p m y).drop (k+1)))):=mulL_drop p m md _ _ k (by rw [qaK];exact be);have u:=zH (qaW (m:=m) (by omega:0<p) md (digs p m x) ((digs p m y).drop (k+1)));have a6:=zH (qcB (by omega:0<p) m x);have a7:=zH (qcB (by omega:0<p) m y);have HK:zK (MInv w C m M N l (digs p m x) (digs p m y) (mulL p m md (digs p m x) ((digs p m y).drop (k+1))) wr):=H.o;clear H;generalize mulL p m md (digs p m x) ((digs p m y).drop (k+1))=f at *;have b6:zK (digs p m x=digs p m x):=rfl;generalize cf:digs p m x=B at *;generalize ch:digs p m y=g at *;clear cf ch b6;obtain ⟨i,E⟩:∃ t,f.getD (m-1) 0=t:=⟨_,rfl⟩;have ab:=zH E;(have t0:wr.cell? (zA l (m-1))=some (Y (i:Int)):=by rw [<- E,<- qaC];exact bm.cell (by rw [qaA,u.o.1];omega));clear T U bm ap bg bh E;go_upto_region 7 with fail;go_cut [49] (fun v wx=>CopyInv w C m M N l B g f wx);case first =>
      obtain⟨cur,ae,R,bc,J⟩:=HK.o.2.2.1.cur;have W:=zH ae;have c6:=zH R;have bw:=zH bc;have b7:=zH J;(have bb:m<=cur.length:=by rw[qaA,u.o.1] at R;exact R);(have P:zK ((((nz f).take (m-1)).map (Value.int .i64)).length=m-1):=by show _=_;rw[List.length_map,List.length_take,qaA,u.o.1];omega);(have az:zK (∀v∈((nz f).take (m-1)).map (Value.int .i64),v.oneCell'=true):=fun v hv=>by obtain⟨z,_,rfl⟩:=List.mem_map.1 hv;rfl);have bu:zK (∀(j:Nat)(v:Value),(((nz f).take (m-1)).map (Value.int .i64))[j]?=some v->wr.cell? ((⟨l,0,none⟩:Addr).add j)=some v):=fun j v hv=>copy_src HK.o.2.2.1 hv;clear ae R bc J t0;have j1:(1:Int)<=(m:Int):=U0;have j3:(m:Int)-1<=(m:Int):=U0;have j5:((m:Int)-1).toNat=m-1:=U0;have j7:(0:Int)<=(m:Int)-1:=U0;generalize ad:((nz f).take (m-1)).map (Value.int .i64)=cs at *;have bv:=zH ad;clear ad;(have X:zK (1+cs.length<=cur.length):=by show _<=_;rw[P.o];omega);have j6:IntKind.i64.wrap ((m:Int)-1)=(m:Int)-1:=IntWalk.i64_in _ U0;by_cases S:m=1;case' pos=>have j2:∀(a b:OA),(if m=1 then a else b)=a:=fun a b=>if_pos S;have b2:=zH S;clear S;go_region_law (refine step_copy_splice rfl (.tmp 43) (.tmp 48) 23 23 rfl 3 underlying23 sizeInt _ _ _ _ _ _ rfl rfl l 1 cur 3 W.o cs (by rw[P.o];simp) (fun aq=>absurd aq (by rw[P.o];have:=b2.o;omega)) X.o az.o l wr zV.drew zn ?_;intro w4 ao an)
      case' neg=>go_region_law (refine step_copy_splice rfl (.tmp 43) (.tmp 48) 23 23 rfl 3 underlying23 sizeInt _ _ _ _ _ _ rfl rfl l 1 cur 3 W.o cs (by rw[P.o];simp) (fun aq=>⟨rfl,(zA l 0),rfl,bu.o⟩) X.o az.o l wr zV.drew zn ?_;intro w4 ao an)
      all_goals
       clear j6
       have HX:zK (CopyInv w C m M N l B g f w4):=copy_inv HK.o u.o U0 bb bw.o b7.o bv.o ao.out an
       clear ao an
       go_wp2
       go_meet
       exact HX.o
     case rest =>
      have HC:zK (MInv w C m M N l B g (f.getD 0 0 :: f.take (m-1)) wc):=hcut;have f0:wc.frozen? (zA l 0)=false:=HC.o.2.2.1.frozen 0;(have c0:wc.cell? (zA l 0)=some (Y ((f.getD 0 0:Nat):Int)):=by have:=HC.o.2.2.1.cell (j:=0) (by simp[nz]);rw[this,qaC];rfl);clear hcut HK q d0 d1 t0;clear wr;go_wp2_with fail;(have ay:zK (MInv w C m M N l B g (innK p m md B (g.getD k 0) f 0) (wc.setCell (zA l 0) (Y 0))):=by have:=HC.o.set 0 0;exact this);clear HC f0 c0;generalize wc.setCell (zA l 0) (Y 0)=wd at *;clear wc;have b0:=zH (fun j hj=>innK_set p m md B (g.getD k 0) f j hj u.o.1);have bx:=zH (fun j hj=>innK_at p m md B (g.getD k 0) f j hj u.o.1);have bz:=zH (innK_end p m md B (g.getD k 0) f u.o.1 U0);(have c5:i<p:=by rw[<- ab.o];exact getD_lt U0 u.o _);have c8:g.getD k 0<p:=getD_lt U0 a7.o _;(have aa:zK (∀j,j<m->(stepM p m md B (g.getD k 0) f).getD j 0=((if j=0 then 0 else f.getD (j-1) 0)+(p-i)*(md:LN).getD j 0+g.getD k 0*B.getD j 0) % p):=fun j hj=>by rw[<- ab.o];exact stepM_at p m md B (g.getD k 0) f j hj);go_loopw [54] (fun v54 wr=>RelI w C p m md M N l B g (g.getD k 0) f v54 wr) (fun v54 _=>m-(intOf v54).toNat);case atStart=>exact⟨0,U0,rfl,ay.o⟩
      case round =>
       obtain⟨j,hj,rfl,s⟩:=hrel;have H:=zH s;have q:=zH s.2.2.2.2.2;clear s ay;have d0:wr.cell? (zA w.heap.size 0)=some (Y p):=(q.o.cell (p:=(zA w.heap.size 0)) (by show w.heap.size < _;omega)).trans (cell_of_row _ _ 0 _ _ _ r.o);have d1:wr.cell? (zA w.heap.size 1)=some (Y m):=(q.o.cell (p:=(zA w.heap.size 1)) (by show w.heap.size < _;omega)).trans (cell_of_row _ _ 1 _ _ _ r.o);by_cases D:j<m
       . have HL := zH (innK_len (p := p) (md := md) (a := B) (bi := g.getD k 0) (Nat.le_of_lt D) U0 u.o.1);(have q0:wr.cell? (zA l j)=some (Y ((if j=0 then 0 else f.getD (j-1) 0:Nat):Int)):=by rw [<- bx.o j D,<- qaC];exact H.o.2.2.1.cell (by rw [qaA,HL.o];exact D));(have q1:wr.cell? (zA M j)=some (Y ((B.getD j 0:Nat):Int)):=by rw [<- qaC];exact H.o.1.cell (by rw [qaA,a6.o.1];exact D));(have q2:wr.cell? (zA N k)=some (Y ((g.getD k 0:Nat):Int)):=by rw [<- qaC];exact H.o.2.1.cell (by rw [qaA,a7.o.1];exact be));have f0:wr.frozen? (zA l j)=false:=H.o.2.2.1.frozen j;have dg:(if j=0 then 0 else f.getD (j-1) 0)<p:=by
          split
          . omega
          . exact getD_lt U0 u.o _
         have c7:B.getD j 0<p:=getD_lt U0 a6.o _;have ak:=zH (aa.o j D);have Z:=zH (b0.o j D);have c9:md.getD j 0<p:=getD_lt U0 ⟨a3.o,b3.o⟩ _;have dj:(0:Int)<=(j:Int):=U0;have dl:(j:Int)<((m:Nat):Int):=U0;generalize bf:md.getD j 0=O at *;have a2:=zH bf;clear bf;go_upto_if 59 with fail;go_cut [13] (fun v13 wx=>v13=Y (O:Int)/\wr=wx);case first=>
          clear q0 q1 q2 f0 ak Z aa;rcases HM.o with⟨h1,h2⟩|⟨h1,h3,_,h4⟩
          . (have af:O=0:=by rw[<- a2.o,h2];rcases j with _|j<;>simp[List.getD]);have cy:m<=1:=U0;have b1:=zH af;clear af h1 h2;go_wp2;go_meet;exact⟨by rw[b1.o];rfl,rfl⟩
          . obtain⟨mb,mo,rfl,cj,ck⟩:=(h4.keep (av.o.trans (q.o.mono (Nat.le_succ _)))).at_ (k:=j) (by rw[qaA,a3.o];exact D);rw[qaC,a2.o] at ck;(have d2:wr.cell? (zA w.heap.size 2)=some (zL (some (zA mb mo)) m c):=by have:=(q.o.cell (p:=(zA w.heap.size 2)) (by show w.heap.size < _;omega)).trans (cell_of_row _ _ 2 _ _ _ r.o);rw[<- h3];exact this);clear h3 h4 cj;go_wp2;go_meet;exact⟨rfl,rfl⟩
         case rest=>
         obtain⟨rfl,cn⟩:=hcut;subst cn;generalize cm:(if j=0 then 0 else f.getD (j-1) 0)=sj at *;generalize ce:B.getD j 0=aj at *;generalize ba:g.getD k 0=bk at *;have bt:=zH ba;clear cm ce ba;have a9:=mul_le_256 (a:=p-i) (b:=O) U0 U0;have cg:=mul_le_256 (a:=bk) (b:=aj) U0 U0;have ar:((p-i:Nat):Int)=(p:Int)-(i:Int):=U0;rw[ar] at a9;obtain⟨cq,cr⟩:=a9;obtain⟨ct,cw⟩:=cg;(have a4:zK (Int.tmod ((sj:Int)+((p:Int)-(i:Int))*(O:Int)+(bk:Int)*(aj:Int)) (p:Int)=(((stepM p m md B bk f).getD j 0:Nat):Int)):=by show _=_;rw[ak.o,<- qaY];congr 1;rw[Int.natCast_add,Int.natCast_add,Int.natCast_mul,Int.natCast_mul,ar]);clear ar ak;generalize J:(stepM p m md B bk f).getD j 0=K at *;have dm:(0:Int)<=(k:Int):=U0;have dn:(k:Int)<((m:Nat):Int):=U0;have aq:((p:Int)==0)=false:=so;have e1:IntKind.i64.wrap ((p:Int)-(i:Int))=(p:Int)-(i:Int):=IntWalk.i64_in _ U0;have e2:IntKind.i64.wrap (((p:Int)-(i:Int))*(O:Int))=((p:Int)-(i:Int))*(O:Int):=IntWalk.i64_in _ U0;have e3:IntKind.i64.wrap ((sj:Int)+((p:Int)-(i:Int))*(O:Int))=(sj:Int)+((p:Int)-(i:Int))*(O:Int):=IntWalk.i64_in _ U0;have e4:IntKind.i64.wrap ((bk:Int)*(aj:Int))=(bk:Int)*(aj:Int):=IntWalk.i64_in _ U0;have e5:IntKind.i64.wrap ((sj:Int)+((p:Int)-(i:Int))*(O:Int)+(bk:Int)*(aj:Int))=(sj:Int)+((p:Int)-(i:Int))*(O:Int)+(bk:Int)*(aj:Int):=IntWalk.i64_in _ U0;have cz:¬p=0:=U0;have c3:¬(p:Int)=0:=U0;(have c4:K<p:=by rw[<- J];exact getD_lt U0 (stepM_dig (m:=m) U0 md B bk f) j);have e7:IntKind.i64.wrap (K:Int)=(K:Int):=IntWalk.i64_in _ U0;have E7:=zH e7;clear e7 J;have E1:=zH e1;have E2:=zH e2;have E3:=zH e3;have E4:=zH e4;have E5:=zH e5;clear e1 e2 e3 e4 e5;go_upto_region 15 with fail;have e1:=E1.o;have e2:=E2.o;have e3:=E3.o;have e4:=E4.o;have e5:=E5.o;have e6:=a4.o;have e7:=E7.o;go_still_tail 27,U1;change wpList _ _ _ _ _ wr.drew;have g0:wr.drew.cell? (zA l j)=some (Y (sj:Int)):=q0;have g1:wr.drew.frozen? (zA l j)=false:=f0;clear e1 e2 e3 e4 e5 e6 e7 q0 q1 q2 f0 d0 d1;go_wp2_with fail;(have a0:zK (MInv w C m M N l B g (innK p m md B bk f (j+1)) (wr.drew.setCell (zA l j) (Y (K:Int)))):=by rw[<- Z.o];exact MInv.set (MInv.drew H.o) j K);go_roundw;case rel=>exact⟨j+1,U0,gn,by rw[bt.o];exact a0.o⟩
         case measure=>simp[intOf];omega
       . (obtain rfl : j = m:=by omega);rw[bz.o,<- b8.o] at H;clear d0 d1 q;go_wp2;go_roundw;case rel=>exact⟨k,U0,gn,H.o⟩
         case measure=>simp[intOf]
end Go.Proofs.YtocbdafcolbfeaaGreat
