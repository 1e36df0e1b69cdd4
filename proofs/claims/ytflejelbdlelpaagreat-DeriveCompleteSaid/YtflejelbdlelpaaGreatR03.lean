/- Parts of the proof. -/
import Derived.WalkLawsBesides
import Derived.WalkSpells
import Derived.Deep.LoopGhost
import Derived.Test.YtflejelbdlelpaaGreatR02
import Derived.Deep.AppendLies
set_option maxRecDepth 100000
set_option maxHeartbeats 8000000
namespace Go.Proofs.YtflejelbdlelpaaGreat
open Go.RowKit Go.Proofs.Tryz
def orderM(p m:Int):Int:=if p<2\/256<p\/m<1\/8<m then 0 else if 256<p.toNat^m.toNat then 0 else((p.toNat^m.toNat:Nat):Int)
theorem qbQ{p m:Int}(h:p<2\/256<p\/m<1\/8<m):orderM p m=0:=by unfold orderM;rw[if_pos h]
theorem qbX{p m:Nat}(f:2<=p)(c:p<=256)(d:1<=m)(b:m<=8):orderM p m=if 256<p^m then 0 else((p^m:Nat):Int):=by unfold orderM;rw[if_neg U0];rfl
theorem qbZ{p k m:Nat}(b:2<=p)(h:k<=m):p^k<=p^m:=Nat.pow_le_pow_right U0 h
theorem qcX(p m:Int)(w:Wo):zC 91 #[Y p,Y m] w fun e w'=>e=.returned (Y (orderM p m))/\w=w':=by
 by_cases g:p<2
 . have b:=zH (qbQ (p:=p) (m:=m) (.inl g));go_enter func91,ntmps91;go_wp2;go_ret;exact⟨qaG b.o.symm,rfl⟩
 . by_cases d : 256 < p
   . have b:=zH (qbQ (p:=p) (m:=m) (.inr (.inl d)));go_enter func91,ntmps91;go_wp2;go_ret;exact⟨qaG b.o.symm,rfl⟩
   . by_cases s : m < 1
     . have b:=zH (qbQ (p:=p) (m:=m) (.inr (.inr (.inl s))));go_enter func91,ntmps91;go_wp2;go_ret;exact⟨qaG b.o.symm,rfl⟩
     . by_cases t : 8 < m
       . have b:=zH (qbQ (p:=p) (m:=m) (.inr (.inr (.inr t))));go_enter func91,ntmps91;go_wp2;go_ret;exact⟨qaG b.o.symm,rfl⟩
       . obtain ⟨p,rfl⟩ := Int.eq_ofNat_of_zero_le (by omega : 0 <= p);obtain ⟨m,rfl⟩:=Int.eq_ofNat_of_zero_le (by omega:0<=m);have n:2<=p:=U0;have c:p<=256:=U0;have x:1<=m:=U0;have h:m<=8:=U0;have l:=zH (qbX n c x h);go_enter func91,ntmps91;go_wp2;go_loop [5,21] (fun a i=>∃ k:Nat,k<=m/\p ^ k<=256/\i=Y k/\a=Y ((p ^ k:Nat):Int)) (fun _ i=>m-(intOf i).toNat);case atStart=>exact ⟨0,U0,U2,rfl,U2⟩
         case round =>
          obtain⟨k,B,y,rfl,rfl⟩:=hrel;by_cases v:k<m
          . have f : zK (p ^ (k + 1) = p ^ k * p) := Nat.pow_succ _ _;have r:=zH (qbZ n (show k+1<=m by omega));generalize p ^ k=q at *;(have z:(q:Int)*(p:Int)<=65536:=by have:q*p<=256*256:=Nat.mul_le_mul y c;have d:((q*p:Nat):Int)=(q:Int)*(p:Int):=Int.natCast_mul _ _;omega);have u:0<=(q:Int)*(p:Int):=Int.mul_nonneg U0 U0;by_cases A:256<(q:Int)*(p:Int)
            . go_wp2;go_ret;refine⟨qaG ?_,rfl⟩;rw[l.o,if_pos];have g:=r.o;rw[f.o] at g;have d:((q*p:Nat):Int)=(q:Int)*(p:Int):=Int.natCast_mul _ _;omega
            . go_wp2;go_round;case rel=>exact⟨k+1,U0,by rw[f.o];have d:((q*p:Nat):Int)=(q:Int)*(p:Int):=Int.natCast_mul _ _;omega,U3,by rw[f.o,Int.natCast_mul]⟩
              case measure=>simp[intOf];omega
          . (obtain rfl:k=m:=by omega);generalize j:p^k=q at *;clear j;go_wp2;go_ret;exact⟨qaG (by rw[l.o,if_neg U0]),rfl⟩
def primeP(n:Nat):Bool:=Nat.ble 2 n && Pln.primeB n
theorem primeP_iff(n:Nat):primeP n=true ↔ (2<=n/\∀ d,2<=d->d*d<=n->n % d≠0):=by
 unfold primeP Pln.primeB;rw[Bool.and_eq_true,Nat.ble_eq,List.all_eq_true];constructor
 . rintro⟨f,c⟩;refine⟨f,fun d hd hdd hz=>?_⟩;(have b:d<n:=by have:2*d<=d*d:=Nat.mul_le_mul_right d hd;omega);have:=c d (List.mem_range.2 b);simp only[Bool.or_eq_true,Nat.blt_eq,bne_iff_ne,ne_eq] at this;rcases this with h|h
   . omega
   . exact h hz
 . rintro ⟨f,c⟩;refine ⟨f,fun d hd=>?_⟩;have b:=List.mem_range.1 hd;simp only [Bool.or_eq_true,Nat.blt_eq,bne_iff_ne,ne_eq];by_cases i:d<2
   . exact .inl i
   . refine .inr fun hz => ?_;by_cases j:d*d<=n
     . exact c d U0 j hz
     . (have e : n = d * (n / d) := by have := Nat.div_add_mod n d;omega);generalize n / d=t at e;(have l:t<d:=by refine Nat.lt_of_not_le fun hge=>?_;have:=Nat.mul_le_mul_left d hge;omega);have g:2<=t:=by
        rcases t with _|_|t
        . omega
        . omega
        . omega
       (have k:t*t<=n:=by rw[e];exact Nat.mul_le_mul_right t U0);exact c t g k (by rw[e];exact Nat.mul_mod_left d t)
theorem primeP_false{n:Nat}(h:¬(2<=n/\∀d,2<=d->d*d<=n->n % d≠0)):primeP n=false:=by rw[<- Bool.not_eq_true,primeP_iff];exact h
theorem isPrime_c(n:Nat)(y:n<=256)(w:Wo):zC 144 #[Y n] w fun e w'=>e=.returned (.bool (primeP n))/\w=w':=by
 go_enter func144,ntmps144;go_wp2;go_loop [3] (fun i=>∃d:Nat,2<=d/\d<=257/\i=Y d/\∀e,2<=e->e<d->e*e<=n->n % e≠0) (fun i=>300-(intOf i).toNat);case atStart=>exact⟨2,U0,U0,rfl,fun e h1 g=>U0⟩
 case round =>
  obtain⟨d,hd,j,rfl,k⟩:=hrel;have f:=zH k;clear k;have v:(d:Int)*(d:Int)<=66049:=by have:d*d<=257*257:=Nat.mul_le_mul j j;have g:((d*d:Nat):Int)=(d:Int)*(d:Int):=Int.natCast_mul _ _;omega
  have s:0<=(d:Int)*(d:Int):=Int.mul_nonneg U0 U0;have p:d<=d*d:=Nat.le_mul_of_pos_left d U0;have b:((d*d:Nat):Int)=(d:Int)*(d:Int):=Int.natCast_mul _ _;have r:=zH b;clear b;by_cases x:(d:Int)*(d:Int)<=(n:Int)
  . (have m : d * d <= n := by have := r.o;omega);by_cases c:(n:Int) % (d:Int)=0
    . have l:=zH c;(have q:((n:Int) % (d:Int)==0)=true:=by rw[c];rfl);clear c;go_wp2;go_ret;refine⟨qaN ?_,rfl⟩;refine(primeP_false ?_).symm;rintro⟨_,h⟩;exact h d hd m (by have:=l.o;omega)
    . have l := zH c;(have q:((n:Int) % (d:Int)==0)=false:=by simpa using c);clear c;go_wp2;go_round
      case rel=>exact ⟨d+1,U0,U0,U3,fun e h1 g h3=>by
       by_cases u:e=d
       . subst u
         have:=l.o
         omega
       . exact f.o e h1 U0 h3⟩
      case measure=>simp[intOf];omega
  . by_cases g : 2 <= n
    . go_wp2;go_ret;refine⟨qaN ?_,rfl⟩;refine Eq.trans ?_ ((primeP_iff n).2 ⟨g,fun e h3 h4=>?_⟩).symm
      . simp;omega
      . have t:=r.o;refine f.o e h3 ?_ h4;refine Nat.lt_of_not_le fun hge=>?_;have:d*d<=e*e:=Nat.mul_le_mul hge hge;omega
    . go_wp2;go_ret;refine⟨qaN ?_,rfl⟩;refine Eq.trans ?_ (primeP_false (fun h3=>absurd h3.1 g)).symm;simp;omega
def nz(l:LN):LI:=l.map fun x:Nat=>(x:Int)
theorem qaA(l:LN):(nz l).length=l.length:=by simp[nz]
theorem qaC(l:LN)(j:Nat):(nz l).getD j 0=((l.getD j 0:Nat):Int):=by unfold nz;simp only[List.getD,List.getElem?_map];cases l[j]?<;>simp
theorem qbC(l:LN)(j x:Nat):(nz l).set j (x:Int)=nz (l.set j x):=by simp[nz,List.map_set]
theorem nz_take(l:LN)(j:Nat):(nz l).take j=nz (l.take j):=by simp[nz,List.map_take]
theorem infoInt:(prog.info? 3).map (fun i=>(i.zero,i.size,i.bytes))=some (some (Y 0),1,8):=U1
theorem qaF{P:Program}{t:TypeId}{z:Option Value}{s b:Nat}(h:(P.info? t).map (fun i=>(i.zero,i.size,i.bytes))=some (z,s,b)):∃i,P.info? t=some i/\i.zero=z/\i.size=s/\i.bytes=b:=by obtain⟨i,d,c⟩:=Option.map_eq_some_iff.1 h;simp only[Prod.mk.injEq] at c;exact⟨i,d,c.1,c.2.1,c.2.2⟩
theorem qaL{w w':Wo}(h:w.grownBy w' none):zB w w':=⟨h.os,h.tape,h.output,h.size,fun k hk=>h.block k hk U2⟩
def Row(w:Wo)(B g c:Nat)(zs:LI):Prop:=w.ownsRow B 3 1 (zS g zs.length c) zs.length (zs.map (Value.int .i64))
section
variable {w w':Wo} {B g c:Nat} {zs:LI}
theorem Row.cell(h:Row w B g c zs){j:Nat}(b:j<zs.length):w.cell? (zA g j)=some (Y (zs.getD j 0)):=by rw[World.ownsRow.cellAt h j U0];simp[List.getD,b]
theorem Row.frozen(h:Row w B g c zs)(j:Nat):w.frozen? (zA g j)=false:=World.ownsRow.frozenAt h j
theorem Row.lt(h:Row w B g c zs):B<=g/\g<w.heap.size:=World.ownsRow.lt h g rfl
theorem Row.set(h:Row w B g c zs)(j:Nat)(x:Int):Row (w.setCell (zA g j) (Y x)) B g c (zs.set j x):=by have:=(World.ownsRow.stored h j (Y x)).1;unfold Row;rw[List.length_set,List.map_set];exact this
theorem Row.grown{row:Option Nat}(h:Row w B g c zs)(d:w.grownBy w' row)(b:some g≠row):Row w' B g c zs:=World.ownsRow.kept h d (.inr b)
theorem Row.below(h:Row w B g c zs){B':Nat}(k:Below B' w w')(l:g<B'):Row w' B g c zs:=by
 refine⟨h.1,?_⟩;rcases h.2 with⟨f,_⟩|⟨b,cap,cur,d,i,j,r⟩
 . cases f
 . (have:b=g:=by simp only[Value.slice.injEq,Option.some.injEq,Addr.mk.injEq,and_true,true_and] at d;exact d.1.symm);exact .inr ⟨b,cap,cur,d,i,(k.block b U0).trans j,r⟩
theorem Row.far(h:Row w B g c zs){p:Addr}(k:g≠p.block)(u:Value):Row (w.setCell p u) B g c zs:=by
 refine⟨h.1,?_⟩;rcases h.2 with⟨f,_⟩|⟨b,cap,cur,d,i,j,r⟩
 . cases f
 . (have:b=g:=by simp only[Value.slice.injEq,Option.some.injEq,Addr.mk.injEq,and_true,true_and] at d;exact d.1.symm);exact .inr ⟨b,cap,cur,d,i,(Below.heap_setCell w p u b U0).trans j,r⟩
theorem Row.alloc(h:Row w B g c zs)(o:Obj):Row (w.alloc o) B g c zs:=World.ownsRow.alloc h o
theorem Row.base{B':Nat}(h:Row w B g c zs)(k:B'<=g):Row w B' g c zs:=by
 refine⟨h.1,?_⟩;rcases h.2 with⟨f,_⟩|⟨d,cap,cur,b,j,i,r⟩
 . cases f
 . (have:d=g:=by simp only[Value.slice.injEq,Option.some.injEq,Addr.mk.injEq,and_true,true_and] at b;exact b.1.symm);exact .inr ⟨d,cap,cur,b,U0,i,r⟩
theorem Row.cur(h:Row w B g c zs):∃cur:List Value,w.heap[g]?=some (.cells cur.toArray 3 (0,0))/\zs.length<=cur.length/\cur.take zs.length=zs.map (Value.int .i64)/\
 ∀(w':Wo)(cur':List Value)(zs':LI),w'.heap[g]?=some (.cells cur'.toArray 3 (0,0))->cur'.length=cur.length->zs'.length=zs.length->cur'.take zs.length=zs'.map (Value.int .i64)->Row w' B g c zs':=by
 rcases h.2 with⟨d,_⟩|⟨m,cap,cur,l,j,k,d,f,n,i⟩
 . cases d
 . have b:=l;simp only[Value.slice.injEq,Option.some.injEq,Addr.mk.injEq,and_true,true_and] at b;obtain⟨rfl,rfl⟩:=b;refine⟨cur.toList,by simpa using k,so,by simpa using i,fun w' cur' zs' e1 e2 e3 e4=>⟨by simp[e3],.inr ⟨g,c,cur'.toArray,by rw[e3],j,e1,U0,f,by simp[e2];omega,?_⟩⟩⟩;rw[e3];simpa using e4
theorem Row.of_make{n:Nat}(h:w.ownsRow B 3 1 (zS g n c) n (madeCells (Y 0).cells (n*1)).toList):Row w B g c (nz (List.replicate n 0)):=by
 unfold Row;have e:(madeCells (Y 0).cells (n*1)).toList=(nz (List.replicate n 0)).map (Value.int .i64):=by
  apply List.ext_getElem
  . simp[madeCells,nz]
  . intro i b d;simp[madeCells,nz,Value.cells,Nat.mod_one]
 rw[qaA,List.length_replicate,<- e];exact h
end
def IntsAt(w:Wo)(B:Nat)(A:OA)(zs:LI):Prop:=
 0<zs.length->∃b o,A=some (zA b o)/\b<B/\∀j,j<zs.length->w.cell? (zA b (o+j))=some (Y (zs.getD j 0))
abbrev zI(w:World)(A:OA)(l:LI):Prop:=IntsAt w w.heap.size A l
theorem IntsAt.keep{w w':Wo}{B:Nat}{A:OA}{zs:LI}(h:IntsAt w B A zs)(f:Below B w w'):IntsAt w' B A zs:=fun hz=>by
 obtain⟨b,o,e,c,d⟩:=h hz
 exact⟨b,o,e,c,fun j hj=>(f.cell (p:=(zA b (o+j))) c).trans (d j hj)⟩
theorem IntsAt.more{w:Wo}{B B':Nat}{A:OA}{zs:LI}(h:IntsAt w B A zs)(f:B<=B'):IntsAt w B' A zs:=fun hz=>by
 obtain⟨b,o,e,d,c⟩:=h hz
 exact⟨b,o,e,U0,c⟩
theorem IntsAt.grow{w w':Wo}{B:Nat}{A:OA}{zs:LI}(h:IntsAt w B A zs)(b:B<=w.heap.size)(d:zB w w'):IntsAt w' B A zs:=h.keep (d.mono b)
theorem IntsAt.at_{w:Wo}{B:Nat}{A:OA}{zs:LI}(h:IntsAt w B A zs){k:Nat}(f:k<zs.length):∃b o,A=some (zA b o)/\b<B/\w.cell? (zA b (o+k))=some (Y (zs.getD k 0)):=by obtain⟨b,o,e,c,d⟩:=h U0;exact⟨b,o,e,c,d k f⟩
theorem Row.ints{w:Wo}{B g c B':Nat}{zs:LI}(h:Row w B g c zs)(b:g<B'):IntsAt w B' (zO g) zs:=fun _=>
 ⟨g,0,rfl,b,fun j hj=>by rw[Nat.zero_add];exact h.cell hj⟩
end Go.Proofs.YtflejelbdlelpaaGreat
namespace Go.Proofs.YtflejelbdlelpaaGreat
open Go.RowKit Pln Go.Proofs.Tryz
theorem digs_snoc(p:Nat):∀ k x,digs p (k+1) x=digs p k x++[x / p ^ k % p]
 |0,x=>by simp[digs]
 |k + 1,x=>by
   have:=digs_snoc p k (x / p)
   rw[digs,this]
   simp only[digs,List.cons_append]
   rw[Nat.div_div_eq_div_mul,Nat.pow_succ,Nat.mul_comm p]
def dgK(p m x k:Nat):LN:=digs p k x++List.replicate (m-k) 0
theorem dgK_set(p m x k:Nat)(b:k<m):(dgK p m x k).set k (x / p^k % p)=dgK p m x (k+1):=by unfold dgK;rw[digs_snoc];rw[List.set_append_right _ _ (by rw[qaK];exact Nat.le_refl _),qaK,Nat.sub_self,show m-k=(m-(k+1))+1 by omega,List.replicate_succ];simp
theorem dgK_len(p m x k:Nat)(b:k<=m):(dgK p m x k).length=m:=by simp[dgK,qaK];omega
def RelDig(w:Wo)(p m x:Nat)(v0 v13:Value)(wr:Wo):Prop:=
 ∃k,k<=m/\v0=Y ((x / p^k:Nat):Int)/\v13=Y k/\Row wr w.heap.size w.heap.size m (nz (dgK p m x k))/\zB w wr
theorem qdD(x p m:Nat)(w:Wo)(R:x<=1000000000)(T:1<=p)(Q:p<=1000000000)(S:m<=1000):
 zC 190 #[Y x,Y p,Y m] w fun e w'=>e=.returned (zS w.heap.size m m)/\Row w' w.heap.size w.heap.size m (nz (digs p m x))/\zB w w':=by
 obtain⟨D,C,n,q,r⟩:=qaF infoInt;have H:=zH C;have z:=zH n;have A:=zH q;have t:=zH (show D.bytes*m<=281474976710656 by rw[r];omega);have u:=zH (show m<=maxLen by unfold maxLen;omega);clear C n q r;go_enter func190,ntmps190;go_wp2_with (refine wpList_make_full w rfl (.tmp 9) (.tmp 9) 22 rfl w.heap.size 3 D (Y 0) 1 underlying22 H.o z.o A.o .i64 .i64 m m m rfl rfl rfl rfl t.o u.o zn ?_;intro P d i);have v:=zH (Row.of_make d);have s:=zH (qaL i);clear d i;go_loopw [0,13] (fun v0 v13 wr=>RelDig w p m x v0 v13 wr) (fun _ v13 _=>m-(intOf v13).toNat);case atStart=>exact⟨0,U0,U2,rfl,v.o,s.o⟩
 case round =>
  obtain⟨k,K,rfl,rfl,b,B⟩:=hrel;have g:=zH b;have c:=zH B;have O:=b.frozen k;have E:zK (x / p^(k+1)=x / p^k / p):=by rw[Nat.pow_succ,<- Nat.div_div_eq_div_mul];rfl
  have J:x / p^k<=1000000000:=Nat.le_trans (Nat.div_le_self _ _) R;have I:=zH (fun h=>dgK_set p m x k h);have f:=zH (dgK_len p m x k K);by_cases l:k<m
  . have N:=b.cell (j:=k) (by rw[qaA,f.o];exact l);clear b B v s;generalize x / p^k=y at *;have L:0<=(y:Int) / (p:Int):=Int.ediv_nonneg U0 U0;have M:(y:Int) / (p:Int)<=(y:Int):=Int.ediv_le_self _ U0;go_wp2;go_roundw;case rel=>refine⟨k+1,U0,by rw[E.o];go_num,U3,?_,(c.o.setCell zn _)⟩;rw[<- I.o l,<- qbC];exact g.o.set k _
    case measure=>simp[intOf];omega
  . (obtain rfl:k=m:=by omega);clear b B v s;generalize x / p^k=y at *;go_wp2;go_ret;refine⟨rfl,?_,c.o⟩;have:=g.o;unfold dgK at this;rw[Nat.sub_self,List.replicate_zero,List.append_nil] at this;exact this
theorem val_drop(p:Nat)(l:LN)(k:Nat)(b:k<l.length):val p (l.drop k)=val p (l.drop (k+1))*p+l.getD k 0:=by rw[List.drop_eq_getElem_cons b,val,Nat.mul_comm,Nat.add_comm];simp[List.getD,b]
theorem val_drop_lt{p:Nat}(c:0<p){l:LN}(b:∀d∈l,d<p)(k:Nat):val p (l.drop k)<p^(l.length-k):=by have:=val_lt c (l.drop k) (fun d hd=>b d (List.mem_of_mem_drop hd));rwa [List.length_drop] at this
theorem valueOf_c(A:OA)(l:LN)(c p:Nat)(w:Wo)(x:zI w A (nz l))(C:1<=p)(B:∀ d∈l,d<p)(H:p ^ l.length<=1000000000)(E:p<=1000000000)(D:l.length<=1000):
 zC 191 #[zL A l.length c,Y p] w fun e w'=>e=.returned (Y ((val p l:Nat):Int))/\w=w':=by
 have n:=zH x;have q:=zH B;clear x B;go_enter func191,ntmps191;go_wp2;go_loop [5,6] (fun v5 v6=>∃k:Nat,k<=l.length/\v6=Y ((k:Int)-1)/\v5=Y ((val p (l.drop k):Nat):Int)) (fun _ v6=>(intOf v6+1).toNat);case atStart=>exact⟨l.length,Nat.le_refl _,rfl,by simp[val]⟩
 case round =>
  obtain⟨k,v,rfl,rfl⟩:=hrel;rcases k with _|k
  . go_wp2;go_ret;exact⟨qaG U2,rfl⟩
  . obtain⟨b,o,rfl,s,r⟩:=n.o.at_ (k:=k) (by rw[qaA];omega);rw[qaC] at r;have m:=zH (val_drop p l k U0);have i:=val_drop_lt C q.o k;have j:p^(l.length-k)<=p^l.length:=Nat.pow_le_pow_right C U0;have f:val p (l.drop k)<=1000000000:=U0;(have h:val p (l.drop (k+1))*p+l.getD k 0<=1000000000:=by rw[<- m.o];exact f);generalize val p (l.drop (k+1))=y at *;generalize l.getD k 0=z at *;(have u:(y:Int)*(p:Int)+(z:Int)<=1000000000:=by(have:((y*p+z:Nat):Int)=(y:Int)*(p:Int)+(z:Int):=by rw[Int.natCast_add,Int.natCast_mul]);omega);have t:0<=(y:Int)*(p:Int):=Int.mul_nonneg U0 U0;have g:((k+1:Nat):Int)-1=(k:Int):=U0;rw[g];clear i j f h;go_wp2;go_round;case rel=>exact⟨k,U0,rfl,by rw[m.o,Int.natCast_add,Int.natCast_mul]⟩
    case measure=>simp[intOf]
theorem valueOf_n(A:OA)(l:LN)(n c p:Nat)(w:Wo)(g:zI w A (nz l))(i:1<=p)(h:Pln.Dig p n l)(j:p^n<=1000000000)(f:p<=1000000000)(d:n<=1000):
 zC 191 #[zL A n c,Y p] w fun e w'=>e=.returned (Y ((val p l:Nat):Int))/\w=w':=by obtain⟨rfl,b⟩:=h;exact valueOf_c A l c p w g i b j f d
end Go.Proofs.YtflejelbdlelpaaGreat
