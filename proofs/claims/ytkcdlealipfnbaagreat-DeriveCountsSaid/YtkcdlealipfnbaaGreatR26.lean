/- Parts of the proof. -/
import Derived.Test.YtkcdlealipfnbaaGreatR20
import Derived.Test.YtkcdlealipfnbaaGreatRows
import Derived.Deep.Slices
import Derived.ProofKit
import Derived.OpenShut
import Derived.Deep.DeepHandedRow
set_option maxRecDepth 100000
set_option maxHeartbeats 8000000
namespace Go.Proofs.YtkcdlealipfnbaaGreat
open Go.RowKit Pln Go.Proofs.Tryz
structure CD where
 p:Int
 m:Int
 mod:LI
 A:OA
 c:Nat
 n:Int
 gen:List LI
 G:OA
 g:Nat
structure CD.At (d:CD) (w:Wo):Prop where
 mod:zI w d.A d.mod
 gen:zR w d.G d.gen
 z:codeZ d.p d.m d.mod d.n d.gen=0
theorem codeSz:(prog.info? 32).map (·.size)=some 5:=U1
end Go.Proofs.YtkcdlealipfnbaaGreat
namespace Go.Proofs.YtkcdlealipfnbaaGreat
namespace Al
def zs:Nat->(Nat->Int)->Int
 |0,_=>0
 |n+1,f=>zs n f+f n
theorem qeX{n:Nat}{f g:Nat->Int}(h:∀j,j<n->f j=g j):zs n f=zs n g:=by
 induction n with
 |zero=>rfl
 |succ n ih=>unfold zs;rw[ih fun j hj=>h j U0,h n U0]
theorem zs_zero{n:Nat}{f:Nat->Int}(h:∀j,j<n->f j=0):zs n f=0:=by
 induction n with
 |zero=>rfl
 |succ n ih=>unfold zs;rw[ih fun j hj=>h j U0,h n U0];rfl
theorem zs_add(n:Nat)(f g:Nat->Int):zs n (fun j=>f j+g j)=zs n f+zs n g:=by
 induction n with
 |zero=>rfl
 |succ n ih=>show zs n (fun j=>f j+g j)+(f n+g n)=zs n f+f n+(zs n g+g n);rw[ih];omega
theorem zs_mul(n:Nat)(a:Int)(f:Nat->Int):zs n (fun j=>f j*a)=zs n f*a:=by
 induction n with
 |zero=>exact(Int.zero_mul a).symm
 |succ n ih=>show zs n (fun j=>f j*a)+f n*a=(zs n f+f n)*a;rw[ih,Int.add_mul]
theorem zs_const(n:Nat)(a:Int):zs n (fun _=>a)=(n:Int)*a:=by
 induction n with
 |zero=>exact(Int.zero_mul a).symm
 |succ n ih=>show zs n (fun _=>a)+a=_;rw[ih,Int.natCast_add,Int.add_mul];simp
theorem zs_front(n:Nat)(f:Nat->Int):zs (n+1) f=f 0+zs n (fun j=>f (j+1)):=by
 induction n with
 |zero=>simp[zs]
 |succ n ih=>show zs (n+1) f+f (n+1)=f 0+(zs n (fun j=>f (j+1))+f (n+1));rw[ih];omega
theorem zs_nonneg{n:Nat}{f:Nat->Int}(h:∀j,j<n->0<=f j):0<=zs n f:=by
 induction n with
 |zero=>exact Int.le_refl 0
 |succ n ih=>have b:=ih fun j hj=>h j U0;have c:=h n U0;unfold zs;omega
theorem zs_pos{n i:Nat}{f:Nat->Int}(h:∀j,j<n->0<=f j)(d:i<n)(g:0<f i):0<zs n f:=by
 induction n with
 |zero=>omega
 |succ n ih=>
  have c:=h n U0;unfold zs;by_cases e:i=n
  . subst e;have b:=zs_nonneg (n:=i) (f:=f) fun j hj=>h j U0;omega
  . have b:=ih (fun j hj=>h j U0) U0;omega
theorem zs_one{n i:Nat}{u v:Int}(b:i<n):zs n (fun j=>if j=i then u else v)=u+((n:Int)-1)*v:=by
 induction n with
 |zero=>omega
 |succ n ih=>
  show zs n (fun j=>if j=i then u else v)+(if n=i then u else v)=_;by_cases e:i=n
  . subst e;rw[if_pos rfl,qeX (g:=fun _=>v) (fun j hj=>if_neg U0),zs_const];have:((i+1:Nat):Int)-1=i:=U0;rw[this];omega
  . rw[ih U0,if_neg U0];have:((n+1:Nat):Int)-1=((n:Int)-1)+1:=U0;rw[this,Int.add_mul ((n:Int)-1) 1 v,Int.one_mul];omega
def ch:Nat->Nat->Nat
 |_,0=>1
 |0,_+1=>0
 |n+1,k+1=>ch n k+ch n (k+1)
theorem ch_big:∀ {n k:Nat},n<k->ch n k=0
 |0,0,h=>by omega
 |0,_+1,_=>rfl
 |n+1,0,h=>by omega
 |n + 1,k + 1,h=>by
   unfold ch
   rw[ch_big (n:=n) (k:=k) U0,ch_big (n:=n) (k:=k+1) U0]
theorem ch_step:∀ n k,ch n (k+1)*(k+1)=ch n k*(n-k)
 |0,k=>by
   show 0*(k+1)=_
   rw[Nat.zero_sub,Nat.zero_mul,Nat.mul_zero]
 |n + 1,0=>by
   have:ch n 1*1=ch n 0*(n-0):=ch_step n 0
   have e:ch n 0=1:=by unfold ch;rfl
   show(ch n 0+ch n 1)*1=1*(n+1)
   rw[e] at this ⊢
   omega
 | n + 1,k + 1 => by
   have g:=ch_step n k
   have h:=ch_step n (k+1)
   show(ch n (k+1)+ch n (k+2))*(k+2)=(ch n k+ch n (k+1))*(n+1-(k+1))
   have b:(ch n (k+1)+ch n (k+2))*(k+2)=ch n (k+1)*(k+1)+ch n (k+1)+ch n (k+2)*(k+1+1):=by
    rw[Nat.add_mul,Nat.mul_succ (ch n (k+1)) (k+1)]
   have d:n+1-(k+1)=n-k:=U0
   rw[b,g,h,d,Nat.add_mul]
   by_cases c:k<n
   . have f : n - k = (n - (k + 1)) + 1:=by omega
     rw[f,Nat.mul_succ (ch n (k+1))]
     omega
   . rw[ch_big (n:=n) (k:=k + 1) U0]
     simp
theorem ch_self:∀ n,ch n n=1
 |0=>rfl
 |n + 1=>by
   unfold ch
   rw[ch_self n,ch_big (n:=n) (k:=n+1) U0]
theorem ch_symm:∀ {n k:Nat},k<=n->ch n (n-k)=ch n k
 |n,0,_=>by
   rw[Nat.sub_zero,ch_self]
   unfold ch
   rfl
 |0,k+1,h=>by omega
 | n + 1,k + 1,h => by
   have e:n+1-(k+1)=n-k:=U0
   rw[e]
   by_cases c:k=n
   . subst c
     rw[Nat.sub_self,ch_self]
     unfold ch
     rfl
   . have d : n - k = (n - (k + 1)) + 1:=by omega
     have b:=ch_symm (n:=n) (k:=k) U0
     have f:=ch_symm (n:=n) (k:=k+1) U0
     rw[d] at b ⊢
     show ch n (n-(k+1))+ch n (n-(k+1)+1)=ch n k+ch n (k+1)
     rw[b,f,Nat.add_comm]
theorem ch_le:∀ n k,ch n k<=2 ^ n
 |0,0=>Nat.le_refl 1
 |0,k+1=>Nat.zero_le _
 |n+1,0=>Nat.one_le_two_pow
 |n + 1,k + 1=>by
   have h1:=ch_le n k
   have b:=ch_le n (k+1)
   show ch n k+ch n (k+1)<=2^(n+1)
   rw[Nat.pow_succ]
   omega
def pp(q:Nat):Nat->Nat->Int
 |0,0=>1
 |0,_+1=>0
 |m+1,0=>pp q m 0
 |m+1,k+1=>pp q m (k+1)+((q:Int)-1)*pp q m k
theorem pp_ch(q:Nat):∀ n k,pp q n k=(ch n k:Int)*((q:Int)-1) ^ k
 |0,0=>by
   rw[Int.pow_zero,Int.mul_one]
   rfl
 |0,k+1=>(Int.zero_mul _).symm
 |n + 1,0=>by
   have:=pp_ch q n 0
   unfold ch at this ⊢
   exact this
 |n + 1,k + 1=>by
   unfold pp ch
   rw[pp_ch q n (k+1),pp_ch q n k,Int.natCast_add,Int.add_mul,Int.pow_succ,<- Int.mul_assoc (ch n k:Int),Int.mul_comm ((q:Int)-1)]
   omega
def pm(q:Nat):Nat->Nat->Nat->Int
 |0,m,k=>pp q m k
 |x+1,m,0=>pm q x m 0
 |x+1,m,k+1=>pm q x m (k+1)-pm q x m k
theorem pm_zero(q:Nat):∀x m,pm q x (m+1) 0=pm q x m 0
 |0,_=>rfl
 |x+1,m=>pm_zero q x m
theorem pm_plus(q:Nat):∀ x m k,pm q x (m+1) (k+1)=pm q x m (k+1)+((q:Int)-1)*pm q x m k
 |0,_,_=>rfl
 |x + 1,m,0=>by
   show pm q x (m+1) 1-pm q x (m+1) 0=pm q x m 1-pm q x m 0+((q:Int)-1)*pm q x m 0
   have h:pm q x (m+1) 1=pm q x m 1+((q:Int)-1)*pm q x m 0:=pm_plus q x m 0
   rw[h,pm_zero]
   omega
 |x + 1,m,k + 1=>by
   show pm q x (m+1) (k+2)-pm q x (m+1) (k+1)=pm q x m (k+2)-pm q x m (k+1)+((q:Int)-1)*(pm q x m (k+1)-pm q x m k)
   have h:pm q x (m+1) (k+2)=pm q x m (k+2)+((q:Int)-1)*pm q x m (k+1):=pm_plus q x m (k+1)
   rw[h,pm_plus q x m k,Int.mul_sub]
   omega
def tn(q:Nat)(old:Nat->Int):Nat->Int
 |0=>old 0
 |k+1=>old (k+1)-old k-((q:Int)-1)*tn q old k
def tb(q n:Nat):Nat->Nat->Int
 |0=>pp q n
 |x+1=>tn q (tb q n x)
theorem tb_pm(q n:Nat):∀ x,x<=n->∀ k,tb q n x k=pm q x (n-x) k
 |0,_,_=>rfl
 |x + 1,hx,0=>by
   have:=tb_pm q n x U0 0
   have e:n-x=(n-(x+1))+1:=U0
   rw[e,pm_zero] at this
   exact this
 |x + 1,hx,k + 1=>by
   have b:=tb_pm q n x U0 (k+1)
   have c:=tb_pm q n x U0 k
   have d:=tb_pm q n (x+1) hx k
   have e:n-x=(n-(x+1))+1:=U0
   have f:=pm_plus q (x+1) (n-(x+1)) k
   rw[e] at b c
   have g:pm q (x+1) (n-(x+1)+1) (k+1)=pm q x (n-(x+1)+1) (k+1)-pm q x (n-(x+1)+1) k:=rfl
   show tb q n x (k+1)-tb q n x k-((q:Int)-1)*tb q n (x+1) k=_
   rw[b,c,d]
   omega
theorem pp_le{q:Nat}(h:1<=q):∀ m k,(pp q m k).natAbs<=q ^ m
 |0,0=>Nat.le_refl 1
 |0,k+1=>Nat.zero_le _
 |m + 1,0=>by
   have:=pp_le h m 0
   show(pp q m 0).natAbs<=q^(m+1)
   rw[Nat.pow_succ]
   exact Nat.le_trans this (Nat.le_mul_of_pos_right _ h)
 | m + 1,k + 1 => by
   have d:=pp_le h m (k+1)
   have b:=pp_le h m k
   show(pp q m (k+1)+((q:Int)-1)*pp q m k).natAbs<=q^(m+1)
   have c:=Int.natAbs_add_le (pp q m (k+1)) (((q:Int)-1)*pp q m k)
   rw[Int.natAbs_mul,show((q:Int)-1).natAbs=q-1 by omega] at c
   have f:(q-1)*(pp q m k).natAbs<=(q-1)*q^m:=Nat.mul_le_mul_left _ b
   have g:q^(m+1)=q^m+(q-1)*q^m:=by
    rw[Nat.pow_succ,Nat.mul_comm]
    have:q=1+(q-1):=U0
    rw[this,Nat.add_mul,Nat.one_mul]
    simp
   omega
theorem pm_le{q:Nat}(d:1<=q):∀ x m k,(pm q x m k).natAbs<=2 ^ x*q ^ m
 |0,m,k=>by
   rw[Nat.pow_zero,Nat.one_mul]
   exact pp_le d m k
 |x + 1,m,0=>by
   have:=pm_le d x m 0
   show(pm q x m 0).natAbs<=_
   rw[Nat.pow_succ,Nat.mul_right_comm]
   omega
 |x + 1,m,k + 1=>by
   have b:=pm_le d x m (k+1)
   have c:=pm_le d x m k
   show(pm q x m (k+1)-pm q x m k).natAbs<=_
   rw[Nat.pow_succ,Nat.mul_right_comm]
   omega
theorem tb_le{q n x k:Nat}(d:2<=q)(f:x<=n):(tb q n x k).natAbs<=q^n:=by rw[tb_pm q n x f];have c:=pm_le (q:=q) U0 x (n-x) k;have b:2^x*q^(n-x)<=q^x*q^(n-x):=Nat.mul_le_mul_right _ (Nat.pow_le_pow_left d x);rw[<- Nat.pow_add,show x+(n-x)=n by omega] at b;omega
end Al
end Go.Proofs.YtkcdlealipfnbaaGreat
namespace Go.Proofs.YtkcdlealipfnbaaGreat
open Pln
namespace Al
def sw(q:Nat):Nat->Nat->(LN->Int)->Int
 |0,0,φ=>φ []
 |0,_+1,_=>0
 |n+1,0,φ=>sw q n 0 fun v=>φ (0 :: v)
 |n+1,k+1,φ=>sw q n (k+1) (fun v=>φ (0 :: v))+zs (q-1) fun a=>sw q n k fun v=>φ ((a+1):: v)
theorem qfO{q:Nat}:∀ {n k:Nat} {φ ψ:LN->Int},(∀ v:LN,v.length=n->φ v=ψ v)->sw q n k φ=sw q n k ψ
 |0,0,_,_,h=>h [] rfl
 |0,_+1,_,_,_=>rfl
 |n+1,0,_,_,h=>qfO (n:=n) (k:=0) fun v hv=>h (0 :: v) (by rw[List.length_cons,hv])
 |n + 1,k + 1,_,_,h=>by
   unfold sw
   rw[qfO (n:=n) (k:=k+1) fun v hv=>h (0 :: v) (by rw[List.length_cons,hv]),qeX fun a _=>qfO (n:=n) (k:=k) fun v hv=>h ((a+1):: v) (by rw[List.length_cons,hv])]
theorem sw_zero{q:Nat}:∀ (n k:Nat),sw q n k (fun _=>0)=0
 |0,0=>rfl
 |0,_+1=>rfl
 |n+1,0=>sw_zero n 0
 |n + 1,k + 1=>by
   unfold sw
   rw[sw_zero n (k+1),zs_zero fun a _=>sw_zero n k]
   rfl
theorem sw_add{q:Nat}:∀ (n k:Nat) (φ ψ:LN->Int),sw q n k (fun v=>φ v+ψ v)=sw q n k φ+sw q n k ψ
 |0,0,_,_=>rfl
 |0,_+1,_,_=>rfl
 |n+1,0,φ,ψ=>sw_add n 0 (fun v=>φ (0 :: v)) fun v=>ψ (0 :: v)
 |n + 1,k + 1,φ,ψ=>by
   unfold sw
   rw[sw_add n (k+1) (fun v=>φ (0 :: v)) fun v=>ψ (0 :: v),qeX fun a _=>sw_add n k (fun v=>φ ((a+1):: v)) fun v=>ψ ((a+1):: v),zs_add]
   omega
theorem sw_zs{q n k:Nat}(F:Nat->LN->Int):∀ m,sw q n k (fun v=>zs m fun a=>F a v)=zs m fun a=>sw q n k (F a)
 |0=>sw_zero n k
 |m + 1=>by
   show sw q n k (fun v=>zs m (fun a=>F a v)+F m v)=_
   rw[sw_add,sw_zs F m]
   rfl
theorem qfM{q:Nat}:∀ {n k:Nat} {φ:LN->Int},(∀ v,0<=φ v)->0<=sw q n k φ
 |0,0,_,h=>h []
 |0,_+1,_,_=>Int.le_refl 0
 |n+1,0,_,h=>qfM (n:=n) (k:=0) fun v=>h (0 :: v)
 |n + 1,k + 1,_,h=>by
   unfold sw
   have h1:=qfM (q:=q) (n:=n) (k:=k+1) fun v=>h (0 :: v)
   have b:=zs_nonneg (n:=q-1) fun a _=>qfM (q:=q) (n:=n) (k:=k) fun v=>h ((a+1):: v)
   omega
theorem sw_pos{q:Nat}:∀ {v:LN} {φ:LN->Int},(∀ v,0<=φ v)->(∀ x∈v,x<q)->0 < φ v->0<sw q v.length (Dv.wt v) φ
 |[],_,_,_,hp=>hp
 | 0 :: v,φ,h,hv,hp => by
   have ih:=sw_pos (v:=v) (φ:=fun v=>φ (0 :: v)) (fun v=>h _) (fun x hx=>hv x (List.mem_cons_of_mem _ hx)) hp
   have e:Dv.wt (0 :: v)=Dv.wt v:=by simp[Dv.wt]
   rw[e,List.length_cons]
   cases hk:Dv.wt v with
   |zero=>
     rw[hk] at ih
     exact ih
   |succ k=>
     rw[hk] at ih
     unfold sw
     have b:=zs_nonneg (n:=q-1) fun a _=>qfM (q:=q) (n:=v.length) (k:=k) fun v=>h ((a+1):: v)
     omega
 | (a + 1) :: v,φ,h,hv,hp => by
   have ih:=sw_pos (v:=v) (φ:=fun v=>φ ((a+1):: v)) (fun v=>h _) (fun x hx=>hv x (List.mem_cons_of_mem _ hx)) hp
   have d:=hv (a+1) List.mem_cons_self
   have e:Dv.wt ((a+1):: v)=Dv.wt v+1:=by
    show(if a+1=0 then 0 else 1)+Dv.wt v=_
    rw[if_neg U0,Nat.add_comm]
   rw[e,List.length_cons]
   unfold sw
   have c:=qfM (q:=q) (n:=v.length) (k:=Dv.wt v+1) fun v=>h (0 :: v)
   have b:=zs_pos (n:=q-1) (i:=a) (fun a _=>qfM (q:=q) (n:=v.length) (k:=Dv.wt v) fun v=>h ((a+1):: v)) U0 ih
   omega
def sms(q:Nat):Nat->(LN->Int)->Int
 |0,φ=>φ []
 |n+1,φ=>zs q fun a=>sms q n fun m=>φ (a :: m)
theorem qfS{q:Nat}:∀ {n:Nat} {φ ψ:LN->Int},(∀ m:LN,m.length=n->(∀ x∈m,x<q)->φ m=ψ m)->sms q n φ=sms q n ψ
 |0,_,_,h=>h [] rfl U2
 |n + 1,_,_,h=>qeX fun a ha=>qfS (n:=n) fun m hm hx=>h (a :: m) (by rw[List.length_cons,hm]) fun x hx2=>by
   rcases List.mem_cons.1 hx2 with rfl|hx2
   . exact ha
   . exact hx x hx2
theorem sms_mul{q:Nat}:∀ (n:Nat) (φ:LN->Int) (a:Int),sms q n (fun m=>φ m*a)=sms q n φ*a
 |0,_,_=>rfl
 |n + 1,φ,a=>by
   unfold sms
   rw[<- zs_mul]
   exact qeX fun b _=>sms_mul n (fun m=>φ (b :: m)) a
theorem zs_swap(n m:Nat)(f:Nat->Nat->Int):zs n (fun j=>zs m (fun i=>f i j))=zs m (fun i=>zs n (fun j=>f i j)):=by
 induction n with
 |zero=>exact(zs_zero fun i _=>rfl).symm
 |succ n ih=>show zs n (fun j=>zs m (fun i=>f i j))+zs m (fun i=>f i n)=_;rw[ih,<- zs_add];rfl
theorem sms_zs{q:Nat}:∀ (n k:Nat)(F:Nat->LN->Int),sms q n (fun m=>zs k fun i=>F i m)=zs k fun i=>sms q n (F i)
 |0,_,_=>rfl
 |n + 1,k,F=>by
   unfold sms
   rw[qeX fun a _=>sms_zs n k fun i m=>F i (a :: m)]
   exact zs_swap q k fun i a=>sms q n fun m=>F i (a :: m)
theorem sms_sw{q n k:Nat}:∀ (l:Nat)(F:LN->LN->Int),sms q l (fun m=>sw q n k (F m))=sw q n k fun v=>sms q l fun m=>F m v
 |0,_=>rfl
 |l + 1,F=>by
   unfold sms
   rw[qeX fun a _=>sms_sw l fun m=>F (a :: m)]
   exact(sw_zs (fun a v=>sms q l fun m=>F (a :: m) v) q).symm
section
variable {q:Nat} {O:Ops} {h:Fld q O}
def ez(z:El q O h):Int:=if z.n=0 then(q:Int)-1 else -1
theorem ez_sum{x:El q O h}(j:x≠0)(t:El q O h):zs q (fun a=>ez (t+El.of h a*x))=0:=by
 have H:=El.fd (h:=h);obtain⟨y,d⟩:=H.inv x j;have e:∀a,a<q->ez (t+El.of h a*x)=if a=(-t*y).n then(q:Int)-1 else -1:=fun a ha=>by
  unfold ez;have i:(t+El.of h a*x).n=0 ↔ a=(-t*y).n:=by
   constructor
   . intro e;have b:t+El.of h a*x=0:=El.eq e;have f:=H.negu b;(have g:El.of h a=-t*y:=by rw[<- f,H.mulA,d,H.umul]);rw[<- g,El.of_n ha]
   . intro e;have b:El.of h a=-t*y:=El.eq (by rw[El.of_n ha,e]);rw[b,H.mulA,H.mulC y,d,H.umul,H.addN];rfl
  by_cases c:a=(-t*y).n
  . rw[if_pos c,if_pos (i.2 c)]
  . rw[if_neg c,if_neg fun e=>c (i.1 e)]
 rw[qeX e,zs_one (-t*y).lt];have:((q:Int)-1)*-1=-((q:Int)-1):=by rw[Int.mul_neg,Int.mul_one]
 rw[this];omega
def dl(h:Fld q O):LN->LN->El q O h
 |x :: c,y :: v=>El.of h y*El.of h x+dl h c v
 |_,_=>0
def gk(q:Nat):LN->Nat->Int
 |[],0=>1
 |[],_+1=>0
 |_ :: c,0=>gk q c 0
 |x :: c,k+1=>if x=0 then gk q c (k+1)+((q:Int)-1)*gk q c k else gk q c (k+1)-gk q c k
theorem gk_cons(q x:Nat)(c:LN)(k:Nat):gk q (x :: c) (k+1)=if x=0 then gk q c (k+1)+((q:Int)-1)*gk q c k else gk q c (k+1)-gk q c k:=rfl
theorem zs_tail(b:0<q)(f:Nat->Int):zs (q-1) (fun a=>f (a+1))=zs q f-f 0:=by have:=zs_front (q-1) f;rw[Nat.sub_add_cancel b] at this;omega
theorem sw_ez:∀ (c:LN),(∀ x∈c,x<q)->∀ (k:Nat)(t:El q O h),sw q c.length k (fun v=>ez (t+dl h c v))=ez t*gk q c k
 |[],_,0,t=>by
   show ez (t+0)=ez t*1
   rw[(El.fd (h:=h)).zadd,Int.mul_one]
 |[],_,k+1,t=>(Int.mul_zero _).symm
 |x :: c,hc,0,t=>by
   have H:=El.fd (h:=h)
   have l:=sw_ez c (fun y hy=>hc y (List.mem_cons_of_mem _ hy)) 0 t
   show sw q c.length 0 (fun v=>ez (t+(El.of h 0*El.of h x+dl h c v)))=ez t*gk q c 0
   rw[<- l]
   refine qfO fun v _=>?_
   rw[El.of_zero,H.zmul,H.addZ]
 | x :: c,hc,k + 1,t => by
   have H:=El.fd (h:=h)
   have b:∀y∈c,y<q:=fun y hy=>hc y (List.mem_cons_of_mem _ hy)
   have j:0<q:=by have:=h.q1;omega
   show sw q c.length (k+1) (fun v=>ez (t+(El.of h 0*El.of h x+dl h c v)))+zs (q-1) (fun a=>sw q c.length k fun v=>ez (t+(El.of h (a+1)*El.of h x+dl h c v)))=ez t*gk q (x :: c) (k+1)
   have f:sw q c.length (k+1) (fun v=>ez (t+(El.of h 0*El.of h x+dl h c v)))=ez t*gk q c (k+1):=by
    rw[<- sw_ez c b (k+1) t]
    refine qfO fun v _=>?_
    rw[El.of_zero,H.zmul,H.addZ]
   have i:∀a,sw q c.length k (fun v=>ez (t+(El.of h (a+1)*El.of h x+dl h c v)))=ez (t+El.of h (a+1)*El.of h x)*gk q c k:=fun a=>by
    rw[<- sw_ez c b k (t+El.of h (a+1)*El.of h x)]
    refine qfO fun v _=>?_
    rw[H.addA]
   rw[f,qeX fun a _=>i a,zs_mul,zs_tail j fun a=>ez (t+El.of h a*El.of h x)]
   rw[gk_cons]
   by_cases d:x=0
   . rw[if_pos d,d,El.of_zero,qeX (g:=fun _=>ez t) (fun a _=>by rw[H.mulZ,H.zadd]),zs_const,H.mulZ,H.zadd,Int.mul_add]
     have:(q:Int)*ez t-ez t=ez t*((q:Int)-1):=by rw[Int.mul_sub,Int.mul_one,Int.mul_comm]
     rw[this,Int.mul_assoc]
   . rw[if_neg d,ez_sum (El.of_ne (hc x List.mem_cons_self) d),El.of_zero,H.zmul,H.zadd,Int.zero_sub,Int.neg_mul,Int.mul_sub]
     omega
def ls(h:Fld q O):LN->List (El q O h)->El q O h
 |a :: m,s :: l=>El.of h a*s+ls h m l
 |_,_=>0
def allz:List (El q O h)->Bool
 |[]=>true
 |s :: l=>decide (s.n=0) && allz l
theorem allz_iff:∀ {l:List (El q O h)},allz l=true ↔ ∀ s∈l,s=0
 |[]=>by simp[allz]
 |s :: l=>by
   have ih:=allz_iff (l:=l)
   unfold allz
   rw[Bool.and_eq_true,ih,decide_eq_true_eq,El.n_zero]
   simp
theorem sms_ez:∀ (l:List (El q O h))(t:El q O h),sms q l.length (fun m=>ez (t+ls h m l))=if allz l=true then (q:Int) ^ l.length*ez t else 0
 |[],t=>by
   rw[if_pos (allz_iff.2 U2)]
   show ez (t+0)=(q:Int)^0*ez t
   rw[(El.fd (h:=h)).zadd,Int.pow_zero,Int.one_mul]
 | s :: l,t => by
   have H:=El.fd (h:=h)
   show zs q (fun a=>sms q l.length fun m=>ez (t+(El.of h a*s+ls h m l)))=_
   have e:∀a,sms q l.length (fun m=>ez (t+(El.of h a*s+ls h m l)))=if allz l=true then(q:Int)^l.length*ez (t+El.of h a*s) else 0:=fun a=>by
    rw[<- sms_ez l (t+El.of h a*s)]
    refine qfS fun m _ _=>?_
    rw[H.addA]
   rw[qeX fun a _=>e a]
   by_cases b:allz l=true
   . rw [qeX (g := fun a => ez (t + El.of h a * s) * (q : Int) ^ l.length) fun a _ => by rw [if_pos b,Int.mul_comm],zs_mul]
     by_cases c:s=0
     . rw [if_pos (allz_iff.2 fun x hx => by
        rcases List.mem_cons.1 hx with rfl|hx
        . exact c
        . exact allz_iff.1 b x hx)]
       rw[c,qeX (g:=fun _=>ez t) (fun a _=>by rw[H.mulZ,H.zadd]),zs_const,List.length_cons,Int.pow_succ,Int.mul_right_comm,Int.mul_comm (q:Int) ((q:Int)^l.length)]
     . rw[if_neg fun hx=>c (allz_iff.1 hx s List.mem_cons_self),ez_sum c,Int.zero_mul]
   . rw[if_neg fun hx=>b (allz_iff.2 fun x hx2=>allz_iff.1 hx x (List.mem_cons_of_mem _ hx2))]
     exact zs_zero fun a _=>if_neg b
theorem ez_zero:ez (0:El q O h)=(q:Int)-1:=if_pos rfl
theorem mac_pos{n:Nat}{rows:LL}(W:LN->LN)(o:∀ m:LN,m.length=rows.length->(∀ x∈m,x<q)->Dv.Ok q n (W m)/\∀ v:LN,v.length=n->dl h (W m) v=ls h m (rows.map fun r=>dl h r v)){v:LN}(l:Dv.Ok q n v)(p:∀ r∈rows,dl h r v=0):0<sms q rows.length (fun m=>gk q (W m) (Dv.wt v)):=by
 have H:=El.fd (h:=h);have k:=h.q1;have e:sms q rows.length (fun m=>gk q (W m) (Dv.wt v))*((q:Int)-1)=sw q n (Dv.wt v) (fun u=>sms q rows.length fun m=>ez (0+ls h m (rows.map fun r=>dl h r u))):=by rw[<- sms_sw,<- sms_mul];refine qfS fun m hm hx=>?_;obtain⟨c,i⟩:=o m hm hx;have d:=sw_ez (h:=h) (W m) c.2 (Dv.wt v) 0;rw[ez_zero,c.1] at d;rw[Int.mul_comm,<- d];exact qfO fun u hu=>by rw[i u hu]
 have g:∀u,sms q rows.length (fun m=>ez (0+ls h m (rows.map fun r=>dl h r u)))=if allz (rows.map fun r=>dl h r u)=true then(q:Int)^rows.length*ez (0:El q O h) else 0:=fun u=>by have:=sms_ez (h:=h) (rows.map fun r=>dl h r u) 0;rw[List.length_map] at this;exact this
 have b:(0:Int)<(q:Int)^rows.length*ez (0:El q O h):=by rw[ez_zero];exact Int.mul_pos (Int.pow_pos U0) U0
 have f:0<sw q n (Dv.wt v) (fun u=>sms q rows.length fun m=>ez (0+ls h m (rows.map fun r=>dl h r u))):=by
  have:=sw_pos (q:=q) (v:=v) (φ:=fun u=>sms q rows.length fun m=>ez (0+ls h m (rows.map fun r=>dl h r u))) (fun u=>by
   rw[g u]
   split
   . exact Int.le_of_lt b
   . exact Int.le_refl 0) l.2 (by
   show 0<sms q rows.length (fun m=>ez (0+ls h m (rows.map fun r=>dl h r v)))
   rw[g v,if_pos (allz_iff.2 fun s hs=>by
    obtain⟨r,j,rfl⟩:=List.mem_map.1 hs
    exact p r j)]
   exact b)
  rw[l.1] at this;exact this
 rw[<- e] at f;exact Int.pos_of_mul_pos_left f U0
end
end Al
namespace Al
def zc:LN->Nat
 |[]=>0
 |x :: c=>zc c+if x=0 then 1 else 0
theorem zc_wt:∀ c:LN,zc c+Dv.wt c=c.length
 |[]=>rfl
 |x :: c=>by
   have:=zc_wt c
   unfold zc Dv.wt
   rw[List.length_cons]
   split<;>omega
theorem gk_pm(q:Nat):∀ (c:LN)(k:Nat),gk q c k=pm q (Dv.wt c) (zc c) k
 |[],0=>rfl
 |[],_+1=>rfl
 | x :: c,0 => by
   have ih:=gk_pm q c 0
   unfold gk zc Dv.wt
   by_cases b:x=0
   . rw[if_pos b,if_pos b,Nat.zero_add,pm_zero,ih]
   . rw[if_neg b,if_neg b,Nat.add_comm,ih]
     rfl
 | x :: c,k + 1 => by
   have d:=gk_pm q c (k+1)
   have f:=gk_pm q c k
   unfold gk zc Dv.wt
   by_cases b:x=0
   . rw[if_pos b,if_pos b,if_pos b,Nat.zero_add,pm_plus,d,f]
   . rw[if_neg b,if_neg b,if_neg b,Nat.add_comm 1,d,f]
     rfl
def wc(q l:Nat)(W:LN->LN)(i:Nat):Int:=sms q l fun m=>if Dv.wt (W m)=i then 1 else 0
theorem sms_gk{q l n k:Nat}{W:LN->LN}(h:∀m:LN,m.length=l->(∀x∈m,x<q)->(W m).length=n):sms q l (fun m=>gk q (W m) k)=zs (n+1) fun i=>wc q l W i*tb q n i k:=by
 have e:sms q l (fun m=>gk q (W m) k)=sms q l (fun m=>zs (n+1) fun i=>(if Dv.wt (W m)=i then 1 else 0)*tb q n i k):=by
  refine qfS fun m hm hx=>?_;have f:=h m hm hx;have g:=zc_wt (W m);have d:Dv.wt (W m)<n+1:=U0;have b:=zs_one (n:=n+1) (i:=Dv.wt (W m)) (u:=tb q n (Dv.wt (W m)) k) (v:=0) d;rw[Int.mul_zero,Int.add_zero] at b;have ez:n-Dv.wt (W m)=zc (W m):=U0;rw[gk_pm,<- ez,<- tb_pm q n _ U0,<- b];refine qeX fun j _=>?_;by_cases c:j=Dv.wt (W m)
  . rw[if_pos c,if_pos c.symm,Int.one_mul,c]
  . rw[if_neg c,if_neg fun e=>c e.symm,Int.zero_mul]
 rw[e,sms_zs];exact qeX fun i _=>sms_mul l (fun m=>if Dv.wt (W m)=i then 1 else 0) _
end Al
end Go.Proofs.YtkcdlealipfnbaaGreat
namespace Go.Proofs.YtkcdlealipfnbaaGreat
open Go.RowKit Pln Go.Proofs.Tryz
section
variable {P:Program}
theorem qeU{b:Array Oper}{rest:List Oper}{o:Oper}{a:Act}{w w':Wo}{v d f:Value}{Q:Exit->Act->Wo->Prop}(c:o.guard=none)(s x:Operand)(t:TypeId)(g:o.op=.call { callee:=.builtin .append,args:=#[s,x],argTypes:=#[t,t] })(j:a.eval s=d)(k:a.eval x=f)(i:(Builtin.append_ #[t,t] o.type #[d,f]).run P w=.ok v w')(h:wpList P b Q rest (a.put o.dst v) w'):wpList P b Q (o :: rest) a w:=
 wpList_plain c fun K hK=>by
  unfold Oper.wp execOp
  simp only[g,resolve,invoke,builtin,Sem.run_bind,Sem.run_pure,Result.andThen_ok,List.map_toArray,List.map_cons,List.map_nil,j,k,i]
  exact hK _ _ h
end
def uz(l:LN):List Value:=l.map fun x:Nat=>.int .u32 (x:Int)
theorem uz_len(l:LN):(uz l).length=l.length:=by simp[uz]
theorem infoWord:(prog.info? 190).map (fun i=>(i.zero,i.size,i.bytes))=some (some (.int .u32 0),1,4):=U1
def OwnW(w:Wo)(B:Nat)(v:Value)(l:LN):Prop:=w.ownsRow B 190 1 v l.length (uz l)
def RowW(w:Wo)(B g c:Nat)(l:LN):Prop:=OwnW w B (zS g l.length c) l
section
variable {w w':Wo} {B g c:Nat} {l:LN} {v:Value}
theorem RowW.cell(h:RowW w B g c l){j:Nat}(b:j<l.length):w.cell? (zA g j)=some (.int .u32 ((l.getD j 0:Nat):Int)):=by rw[World.ownsRow.cellAt h j U0];simp[uz,List.getD,b]
theorem RowW.frozen(h:RowW w B g c l)(j:Nat):w.frozen? (zA g j)=false:=World.ownsRow.frozenAt h j
theorem RowW.lt(h:RowW w B g c l):B<=g/\g<w.heap.size:=World.ownsRow.lt h g rfl
theorem RowW.set(h:RowW w B g c l)(j x:Nat):RowW (w.setCell (zA g j) (.int .u32 (x:Int))) B g c (l.set j x):=by have:=(World.ownsRow.stored h j (.int .u32 (x:Int))).1;unfold RowW OwnW uz;rw[List.length_set,List.map_set];exact this
theorem RowW.of_make{n:Nat}(h:w.ownsRow B 190 1 (zS g n c) n (madeCells (Value.int .u32 0).cells (n*1)).toList):RowW w B g c (List.replicate n 0):=by
 unfold RowW OwnW;have e:(madeCells (Value.int .u32 0).cells (n*1)).toList=uz (List.replicate n 0):=by
  apply List.ext_getElem
  . simp[madeCells,uz]
  . intro i b d;simp[madeCells,uz,Value.cells,Nat.mod_one]
 rw[List.length_replicate,<- e];exact h
theorem RowW.words(h:RowW w B g c l):WordsAt w w.heap.size (zO g) l:=fun _=>
 ⟨g,0,rfl,h.lt.2,fun j hj=>by rw[Nat.zero_add];exact h.cell hj⟩
theorem RowW.cap(h:RowW w B g c l):l.length<=c:=by
 rcases h.2 with⟨d,_⟩|⟨i,cap,cur,b,_,_,f,_⟩
 . cases d
 . simp only[Value.slice.injEq] at b;rw[b.2.2];exact f
end
theorem WordsAt.news{w:Wo}{B b o:Nat}{l:LN}(h:WordsAt w B (some (zA b o)) l):∀(j:Nat)(u:Value),(uz l)[j]?=some u->w.cell? ((⟨b,o,none⟩:Addr).add j)=some u:=by
 intro j u g;have f:j<l.length:=by simpa[uz] using(List.getElem?_eq_some_iff.1 g).1
 obtain⟨k,m,d,_,i⟩:=h U0;injection d with d;injection d with e1 e2;subst e1;subst e2;have c:(⟨b,o,none⟩:Addr).add j=(zA b (o+j)):=by unfold Addr.add;split<;>simp_all
 rw[c,i j f,<- g];simp[uz,List.getD,f]
theorem append_wnil{w:Wo}{A:OA}{l:LN}(c:Nat)(q:WordsAt w w.heap.size A l)(r:l.length<=1000000):
 ∃v w',(Builtin.append_ #[143,143] 143 #[zL none 0 0,zL A l.length c]).run prog w=.ok v w'/\OwnW w' w.heap.size v l/\zB w w':=by
 obtain⟨m,j,g,h,i⟩:=qaF infoWord;rcases Nat.eq_zero_or_pos l.length with h0|h0
 . have e:=List.length_eq_zero_iff.1 h0;subst e;exact⟨_,w,qfH w w.heap.size _ _ 190 m 1 underlying143 j (zL none 0 0) 0 [] (World.ownsRow_nil _ _ _ _) A c,World.ownsRow_nil _ _ _ _,Below.refl _ _⟩
 . obtain ⟨b,o,rfl,_,_⟩ := q h0
   obtain⟨p,w',f,d,n,_,_⟩:=run_append_own_at (P:=prog) (w:=w) w.heap.size 143 143 190 m _ 1 4 underlying143 j g h i rfl dc (zL none 0 0) 0 [] (World.ownsRow_nil _ _ _ _) (zA b o) l.length c (uz l) (by rw[uz_len,Nat.mul_one]) q.news
    (fun u hu=>by obtain⟨z,_,rfl⟩:=List.mem_map.1 hu;rfl) ml U0 zn
   refine⟨p,w',f,?_,zV.grown n zn (fun k hk=>by simp[Value.ownBlock] at hk)⟩;rw[Nat.zero_add,List.nil_append] at d;exact d
theorem trim_c(A:OA)(l:LN)(c:Nat)(w:Wo)(n:WordsAt w w.heap.size A l)(p:l.length<=1000000)(q:l.length<=c):
 zC 169 #[zL A l.length c] w fun e w'=>∃v,e=.returned v/\OwnW w' w.heap.size v (trm l)/\zB w w':=by
 have m:=zH (short_c A l c w n p q);have g:(trm l).length<=1000000:=by rw[trm_len];exact Nat.le_trans (tlen_le _ _) p
 obtain⟨v,h,d,b,f⟩:=append_wnil (trm l).length (n.take (tlen l l.length)) g;have j:zK (OwnW h w.heap.size v (trm l)):=b;have i:=zH f;have k:zK ((Builtin.append_ #[143,143] 143 #[zL none 0 0,zL A (trm l).length (trm l).length]).run prog w=.ok v h):=d;clear n b f g d;go_enter func169,ntmps169;go_wp2_with fail;refine m.o.mono ?_;rintro e w' ⟨rfl,rfl⟩;go_wp2_with (at_builtin;refine qeU rfl _ (.tmp 4) 143 rfl rfl rfl k.o ?_);go_ret;exact⟨_,rfl,j.o,i.o⟩
def WordsUp(w:Wo)(lo:Nat)(A:OA)(l:LN):Prop:=
 0<l.length->∃b o,A=some (zA b o)/\lo<=b/\b<w.heap.size/\∀j,j<l.length->w.cell? (zA b (o+j))=some (.int .u32 ((l.getD j 0:Nat):Int))
def NatV(w:Wo)(lo:Nat)(v:Value)(N:Nat):Prop:=∃A l c,v=zL A l.length c/\l.length<=c/\Cn l/\val BB l=N/\WordsUp w lo A l
def NatR(N:Nat)(w:Wo)(e:Ending)(w':Wo):Prop:=∃v,e=.returned v/\NatV w' w.heap.size v N/\zB w w'
section
variable {w w':Wo} {lo lo' B N:Nat} {A:OA} {l:LN} {v:Value}
theorem WordsUp.words(h:WordsUp w lo A l):WordsAt w w.heap.size A l:=fun hz=>by
 obtain⟨b,o,e,_,c,d⟩:=h hz
 exact⟨b,o,e,c,d⟩
theorem WordsUp.of_blocks(h:WordsUp w lo A l)(i:w.heap.size<=w'.heap.size)(g:∀k,lo<=k->k<w.heap.size->w'.heap[k]?=w.heap[k]?):WordsUp w' lo A l:=fun hz=>by
 obtain⟨b,o,e,c,d,f⟩:=h hz
 refine⟨b,o,e,c,U0,fun j hj=>?_⟩
 have:w'.cell? (zA b (o+j))=w.cell? (zA b (o+j)):=by
  unfold World.cell?
  rw[g b c d]
 exact this.trans (f j hj)
theorem NatV.of_blocks(h:NatV w lo v N)(j:w.heap.size<=w'.heap.size)(i:∀k,lo<=k->k<w.heap.size->w'.heap[k]?=w.heap[k]?):NatV w' lo v N:=by obtain⟨A,l,c,e,b,d,f,g⟩:=h;exact⟨A,l,c,e,b,d,f,g.of_blocks j i⟩
theorem NatV.grow(h:NatV w lo v N)(b:zB w w'):NatV w' lo v N:=h.of_blocks b.size fun k _ hk=>b.block k hk
theorem NatV.low(h:NatV w lo v N)(k:lo'<=lo):NatV w lo' v N:=by obtain⟨A,l,c,e,d,f,g,i⟩:=h;refine⟨A,l,c,e,d,f,g,fun hz=>?_⟩;obtain⟨b,o,e,j,r⟩:=i hz;exact⟨b,o,e,U0,r⟩
theorem NatV.zero(w:Wo)(lo:Nat):NatV w lo (zL none 0 0) 0:=⟨none,[],0,rfl,Nat.le_refl _,⟨U2,U2⟩,rfl,fun h=>by simp at h⟩
theorem OwnW.nat{d:LN}(h:OwnW w B v (trm d))(hd:∀x∈d,x<BB):NatV w B v (val BB d):=by
 rcases h.2 with⟨c,f⟩|⟨g,cap,cur,l,i,m,k,_⟩
 . have e:=List.length_eq_zero_iff.1 f;have:=trm_val BB d;rw[e] at this;rw[c,<- this];exact NatV.zero w B
 . subst l;have b:RowW w B g cap (trm d):=h;exact⟨_,trm d,cap,rfl,k,trm_cn hd,trm_val BB d,fun _=>⟨g,0,rfl,i,b.lt.2,fun j hj=>by rw[Nat.zero_add];exact b.cell hj⟩⟩
theorem RowW.nat{g c:Nat}{d:LN}(h:RowW w B g c d)(hd:∀x∈d,x<BB):NatV w B (zS g (trm d).length (trm d).length) (val BB d):=by refine⟨_,trm d,_,rfl,Nat.le_refl _,trm_cn hd,trm_val BB d,fun _=>⟨g,0,rfl,h.lt.1,h.lt.2,fun j hj=>?_⟩⟩;rw[trm_len] at hj;have:=tlen_le d d.length;rw[Nat.zero_add,h.cell U0];unfold trm;rw[take_getD hj]
end
theorem two_words{w:Wo}{c d:Nat}:WordsAt (w.alloc (.cells #[.int .u32 (c:Int),.int .u32 (d:Int)] 190)) (w.alloc (.cells #[.int .u32 (c:Int),.int .u32 (d:Int)] 190)).heap.size (zO w.heap.size) [c,d]:=fun _=>⟨w.heap.size,0,rfl,U2,fun j hj=>by
 have b:(w.alloc (.cells #[.int .u32 (c:Int),.int .u32 (d:Int)] 190)).heap[w.heap.size]?=some (.cells #[.int .u32 (c:Int),.int .u32 (d:Int)] 190 (0,0)):=heap_alloc_new _ _
 match j,hj with
 |0,_=>exact cell_of_row _ _ 0 _ _ _ b
 |1,_=>exact cell_of_row _ _ 1 _ _ _ b⟩
theorem natOf_c(n:Nat)(w:Wo)(p:n<BB*BB):zC 118 #[.int .u64 (n:Int)] w (NatR n w):=by
 obtain⟨b,h⟩:∃b,b=n % BB:=⟨_,rfl⟩;obtain⟨c,i⟩:∃c,c=n / BB:=⟨_,rfl⟩;unfold BB at p h i;have g:zK (val BB [b,c]=n/\∀x∈[b,c],x<BB):=by
  refine⟨?_,fun x hx=>?_⟩
  . show b+BB*(c+BB*0)=n;unfold BB;omega
  . simp only[List.mem_cons,List.not_mem_nil,or_false] at hx;unfold BB;omega
 have k:=zH (trim_c (zO w.heap.size) [b,c] 2 _ (two_words (w:=w)) U2 U2);have d:zK (zB w (w.alloc (.cells #[.int .u32 (b:Int),.int .u32 (c:Int)] 190))):=zV.alloc zn _;have l:IntKind.u32.wrap (n:Int)=b:=by rw[IntKind.wrap_u32];omega
 have m:(n:Int) / 4294967296 % 4294967296=c:=U0;clear h i p;go_enter func118,ntmps118;go_wp2_with fail;refine k.o.mono ?_;rintro e w' ⟨v,rfl,ho,hb⟩;have j:=zH ho;have f:zK (zB w w'):=d.o.trans (hb.mono d.o.size);clear ho hb;go_wp2;go_ret;refine⟨_,rfl,?_,f.o⟩;rw[<- g.o.1];exact(j.o.nat g.o.2).low d.o.size
theorem qfC(p:Nat)(l:LN)(n:Nat):val p (l.take (n+1))=val p (l.take n)+p^n*l.getD n 0:=by
 by_cases b:n<l.length
 . exact qfP p b
 . (have e:l.getD n 0=0:=by simp[List.getD,show l.length<=n by omega]);rw[e,List.take_of_length_le U0,List.take_of_length_le U0];omega
theorem set_getD{l:LN}{n x:Nat}(b:n<l.length):(l.set n x).getD n 0=x:=by simp[List.getD,b]
theorem take_set_self(l:LN)(n x:Nat):(l.set n x).take n=l.take n:=by rw[List.take_set];exact List.set_eq_of_length_le (by rw[List.length_take];omega)
theorem set_val(p:Nat){l:LN}{n x:Nat}(b:n<l.length):val p ((l.set n x).take (n+1))=val p (l.take n)+p^n*x:=by rw[qfC,take_set_self,set_getD b]
theorem set_lt{l:LN}{n x q:Nat}(h:∀ d∈l,d<q)(b:x<q):∀ d∈l.set n x,d<q:=fun d hd=>by
 rcases List.mem_or_eq_of_mem_set hd with h1|h1
 . exact h d h1
 . rw[h1]
   exact b
theorem qfJ{l:LN}{q:Nat}(h:∀d∈l,d<q)(c:0<q)(j:Nat):l.getD j 0<q:=by
 by_cases b:j<l.length
 . (have:l.getD j 0=l[j]:=by simp[List.getD,b]);rw[this];exact h _ (List.getElem_mem b)
 . (have:l.getD j 0=0:=by simp[List.getD,show l.length<=j by omega]);omega
theorem rep_lt(n:Nat):∀d∈List.replicate n 0,d<BB:=fun d hd=>by
 rw[(List.mem_replicate.1 hd).2]
 decide
def RelPl(w:Wo)(a b:LN)(k:Nat)(v6:Value)(L:LN)(wr:Wo):Prop:=
 ∃cy:Nat,cy<=1/\v6=.int .u64 (cy:Int)/\L.length=a.length+1/\(∀d∈L,d<BB)/\RowW wr w.heap.size w.heap.size (a.length+1) L/\zB w wr/\val BB (L.take k)+BB^k*cy=val BB (a.take k)+val BB (b.take k)
theorem plus_step{k s d:Nat}{a b L:LN}(f:k<L.length)(h:val BB (L.take k)+BB^k*d=val BB (a.take k)+val BB (b.take k))(g:s=a.getD k 0+d+b.getD k 0):val BB ((L.set k (s % BB)).take (k+1))+BB^(k+1)*(s / BB)=val BB (a.take (k+1))+val BB (b.take (k+1)):=by
 rw[set_val BB f,qfC BB a k,qfC BB b k,Nat.pow_succ,Nat.mul_assoc];have e:BB^k*s=BB^k*(s % BB)+BB^k*(BB*(s / BB)):=by rw[<- Nat.mul_add,Nat.mod_add_div]
 have c:BB^k*s=BB^k*a.getD k 0+BB^k*d+BB^k*b.getD k 0:=by rw[g,Nat.mul_add,Nat.mul_add]
 omega
theorem plus_c(A1 A2:OA)(l1 l2:LN)(c1 c2:Nat)(w:Wo)(h1:WordsAt w w.heap.size A1 l1)(h2:WordsAt w w.heap.size A2 l2)(d1:∀ d∈l1,d<BB)(d2:∀ d∈l2,d<BB)(n1:l1.length<=100000)(n2:l2.length<=100000):
 zC 213 #[zL A1 l1.length c1,zL A2 l2.length c2] w (NatR (val BB l1+val BB l2) w):=by
 obtain⟨i0,hi,M,i,m⟩:=qaF infoWord;have HI:=zH hi;have ad:=zH M;have ae:=zH i;have af:=zH m;have U:=zH h1;have V:=zH h2;have S:=zH d1;have T:=zH d2;obtain⟨N,P⟩:∃N,zK (N=val BB l1+val BB l2):=⟨_,rfl⟩;rw[<- P.o];clear hi M i m h1 h2 d1 d2;go_enter func213,ntmps213;go_upto_if 13 with fail;go_cut [0,1] (fun v0 v1 wx=>∃(A B:OA)(a b:LN)(ca cb:Nat),v0=zL A a.length ca/\v1=zL B b.length cb/\wx=w/\b.length<=a.length/\a.length<=100000/\N=val BB a+val BB b/\(∀d∈a,d<BB)/\(∀d∈b,d<BB)/\WordsAt w w.heap.size A a/\WordsAt w w.heap.size B b);case first=>
  by_cases I:l1.length<l2.length
  . (have J:(l1.length:Int)<(l2.length:Int):=by omega);go_wp2;go_meet;exact⟨A2,A1,l2,l1,c2,c1,rfl,rfl,rfl,U0,n2,by rw[P.o,Nat.add_comm],T.out,S.out,V.out,U.out⟩
  . (have J:¬(l1.length:Int)<(l2.length:Int):=by omega);go_wp2;go_meet;exact⟨A1,A2,l1,l2,c1,c2,rfl,rfl,rfl,U0,n1,P.o,S.out,T.out,U.out,V.out⟩
 case rest =>
  obtain⟨A,B,a,b,ca,cb,rfl,rfl,rfl,ag,hn,hN,da,db,hA,hB⟩:=hcut;have ab:=zH hN;have HA:=zH hA;have HB:=zH hB;have DA:=zH da;have DB:=zH db;have W:=zH (show i0.bytes*(a.length+1)<=281474976710656 by rw[af.o];omega);have X:=zH (show a.length+1<=maxLen by unfold maxLen;omega);clear hN hA hB da db U V S T P n1 n2;go_wp2_with (refine wpList_make_full wc rfl (.tmp 18) (.tmp 18) 143 rfl wc.heap.size 190 i0 (.int .u32 0) 1 underlying143 HI.o ad.o ae.o .i64 .i64 (a.length+1) (a.length+1) (a.length+1) rfl rfl rfl rfl W.o X.o zn ?_;intro w1 r H);have HR:zK (RelPl wc a b 0 (.int .u64 0) (List.replicate (a.length+1) 0) w1):=⟨0,U0,rfl,U2,rep_lt _,RowW.of_make r,qaL H,rfl⟩;clear r H;go_loopw [6,22] (fun v6 v22 wr=>∃(k:Nat)(L:LN),k<=a.length/\v22=Y (k:Int)/\RelPl wc a b k v6 L wr) (fun _ v22 _=>a.length-(intOf v22).toNat);case atStart=>exact⟨0,_,U0,rfl,HR.o⟩
  case round =>
   obtain⟨k,L,hk,rfl,g,aj,rfl,hL,hd,c,hb,hv⟩:=hrel;have C:=zH hL;have O:=zH hd;have Q:=zH c;have h:=zH hb;have HV:=zH hv;have fr:=c.frozen k;have fk:=c.frozen a.length;have yr:=c.cell (j:=k) U0;have yk:=c.cell (j:=a.length) U0;clear hL hd c hb hv HR;by_cases I:k<a.length
   . obtain ⟨ba,oa,rfl,ak,ya⟩ := (HA.o.keep h.o).at_ (k := k) I;have i:=qfJ DA.out dc k;have m:=qfJ DB.out dc k;have f:∀ s,s=a.getD k 0+g+b.getD k 0->val BB ((L.set k (s % BB)).take (k+1))+BB ^ (k+1)*(s / BB)=val BB (a.take (k+1))+val BB (b.take (k+1)):=fun s hs=>plus_step (by rw [C.o];omega) HV.o hs;by_cases K:k<b.length
     . obtain⟨bb,ob,rfl,al,yb⟩:=(HB.o.keep h.o).at_ (k:=k) K;generalize L.getD k 0=zr at *;generalize L.getD a.length 0=zk at *;generalize a.getD k 0=q at *;generalize b.getD k 0=R at *;unfold BB at i m;obtain⟨x,t⟩:∃x,x=(q+g+R) % BB:=⟨_,rfl⟩;obtain⟨y,v⟩:∃y,y=(q+g+R) / BB:=⟨_,rfl⟩;have f:=zH (f _ rfl);rw[<- t,<- v] at f;unfold BB at t v;(have ex:IntKind.u32.wrap ((q:Int)+(g:Int)+(R:Int))=(x:Int):=by rw[IntKind.wrap_u32];omega);have ey:((q:Int)+(g:Int)+(R:Int)) / 4294967296=(y:Int):=U0;have z:y<=1:=U0;(have u:x<BB:=by unfold BB;omega);clear t v;go_wp2;go_roundw;case rel=>exact⟨k+1,L.set k x,U0,U3,y,z,rfl,by rw[List.length_set,C.o],set_lt O.o u,Q.o.set k x,h.o.setCell zn _,f.o⟩
       case measure=>simp[intOf];omega
     . (have e2 : b.getD k 0 = 0:=by simp[List.getD,show b.length<=k by omega]);rw[e2] at f;have ai:¬(k:Int)<(b.length:Int):=U0;generalize L.getD k 0=zr at *;generalize L.getD a.length 0=zk at *;generalize a.getD k 0=q at *;unfold BB at i;obtain⟨x,t⟩:∃x,x=(q+g+0) % BB:=⟨_,rfl⟩;obtain⟨y,v⟩:∃y,y=(q+g+0) / BB:=⟨_,rfl⟩;have f:=zH (f _ rfl);rw[<- t,<- v] at f;unfold BB at t v;(have ex:IntKind.u32.wrap ((q:Int)+(g:Int))=(x:Int):=by rw[IntKind.wrap_u32];omega);have ey:((q:Int)+(g:Int)) / 4294967296=(y:Int):=U0;have z:y<=1:=U0;(have u:x<BB:=by unfold BB;omega);clear t v m e2;go_wp2;go_roundw;case rel=>exact⟨k+1,L.set k x,U0,U3,y,z,rfl,by rw[List.length_set,C.o],set_lt O.o u,Q.o.set k x,h.o.setCell zn _,f.o⟩
       case measure=>simp[intOf];omega
   . (obtain rfl:k=a.length:=by omega);generalize L.getD a.length 0=zk at *;have ex:IntKind.u32.wrap (g:Int)=(g:Int):=IntWalk.u32_in _ U0;(have ah:g<BB:=by unfold BB;omega);(have p:zK ((L.set a.length g).length=a.length+1):=by show _=_;rw[List.length_set,C.o]);have aa:=zH (set_lt O.o ah (n:=a.length));have E:=zH (Q.o.set a.length g);have Z:zK (zB wc (wr.setCell (zA wc.heap.size a.length) (.int .u32 (g:Int)))):=h.o.setCell zn _;(have ac:zK (val BB (L.set a.length g)=N):=by show _=_;have h1:=set_val BB (l:=L) (n:=a.length) (x:=g) (by rw[C.o];omega);rw[<- p.o,List.take_length,HV.o,List.take_length,List.take_of_length_le ag] at h1;rw[h1,ab.o]);have D:=zH (short_c (zO wc.heap.size) (L.set a.length g) (a.length+1) _ E.o.words (by rw[p.o];omega) (by rw[p.o];exact Nat.le_refl _));rw[p.o] at D;clear C O Q h HV yr fr;go_wp2_with fail;refine D.o.mono ?_;rintro e w' ⟨rfl,rfl⟩;go_wp2;go_ret;refine⟨_,rfl,?_,Z.o⟩;rw[<- ac.o];exact E.o.nat aa.o
def NatsAt(w:Wo)(A:OA)(Ns:LN):Prop:=
 0<Ns.length->∃b o,A=some (zA b o)/\b<w.heap.size/\∀j,j<Ns.length->∃v,w.cell? (zA b (o+j))=some v/\NatV w 0 v (Ns.getD j 0)
theorem NatsAt.grow{w w':Wo}{A:OA}{Ns:LN}(h:NatsAt w A Ns)(i:zB w w'):NatsAt w' A Ns:=fun hz=>by
 obtain⟨b,o,e,c,g⟩:=h hz
 refine⟨b,o,e,Nat.lt_of_lt_of_le c i.size,fun j hj=>?_⟩
 obtain⟨v,d,f⟩:=g j hj
 exact⟨v,(i.cell (p:=(zA b (o+j))) c).trans d,f.grow i⟩
theorem nats_two{w:Wo}{x y:Value}{M N:Nat}(d:NatV w 0 x M)(f:NatV w 0 y N):NatsAt (w.alloc (.cells #[x,y] 143)) (zO w.heap.size) [M,N]:=fun _=>⟨w.heap.size,0,rfl,U2,fun j hj=>by
 have c:(w.alloc (.cells #[x,y] 143)).heap[w.heap.size]?=some (.cells #[x,y] 143 (0,0)):=heap_alloc_new _ _
 have b:zB w (w.alloc (.cells #[x,y] 143)):=zV.alloc zn _
 match j,hj with
 |0,_=>exact⟨x,cell_of_row _ _ 0 _ _ _ c,d.grow b⟩
 |1,_=>exact⟨y,cell_of_row _ _ 1 _ _ _ c,f.grow b⟩⟩
theorem qfN{A:OA}{l:LN}{c:Nat}{w:Wo}(b:WordsAt w w.heap.size A l)(f:l.length<=1000000)(d:l.length<=c)(g:Cn l):
 zC 211 #[zL A l.length c] w fun e w'=>e=.returned (zL A l.length l.length)/\w=w':=by have:=short_c A l c w b f d;rw[cn_trm g] at this;exact this
theorem sum_take_succ(l:LN)(k:Nat)(b:k<l.length):(l.take (k+1)).sum=(l.take k).sum+l.getD k 0:=by rw[List.take_add_one,List.sum_append];simp[List.getD,b]
theorem sum_take_le(l:LN)(k:Nat):(l.take k).sum<=l.sum:=by have h:=List.take_append_drop k l;have:=congrArg List.sum h;rw[List.sum_append] at this;omega
def LIM:Nat:=BB^200
theorem qfQ{l:LN}(h:Cn l)(b:val BB l<LIM):l.length<=200:=cn_len h b
def RelQa(w:Wo)(Ns:LN)(v3 v8:Value)(wr:Wo):Prop:=
 ∃k:Nat,k<=Ns.length/\v8=Y (k:Int)/\NatV wr w.heap.size v3 (Ns.take k).sum/\zB w wr
theorem natAdd_c(A:OA)(Ns:LN)(c:Nat)(w:Wo)(hA:NatsAt w A Ns)(hs:Ns.sum<LIM)(hl:Ns.length<=1000000):
 zC 171 #[zL A Ns.length c] w (NatR Ns.sum w):=by
 have D:=zH hA;have P:=zH hs;have O:zK (RelQa w Ns (zL none 0 0) (Y 0) w):=⟨0,U0,rfl,NatV.zero _ _,Below.refl _ _⟩;clear hA hs;go_enter func171,ntmps171;go_wp2;go_loopw [3,8] (fun v3 v8 wr=>RelQa w Ns v3 v8 wr) (fun _ v8 _=>Ns.length-(intOf v8).toNat);case atStart=>exact O.o
 case round =>
  obtain⟨k,hk,rfl,z,h⟩:=hrel;have f:=zH h;obtain⟨M,B,c1,rfl,J,j,L,S⟩:=z;have Q:=sum_take_le Ns k;have n1:B.length<=200:=qfQ j (by rw[L];exact Nat.lt_of_le_of_lt Q P.o);have l:=zH j;have q:=zH L;have r:=zH S;clear h j L S Q O;by_cases u:k<Ns.length
  . obtain⟨b,o,rfl,I,d⟩:=D.o U0;obtain⟨v,t,C,x,c2,rfl,K,g,R,T⟩:=d k u;have y:wr.cell? (zA b (o+k))=some (zL C x.length c2):=(f.o.cell (p:=(zA b (o+k))) I).trans t;have n:=zH (sum_take_succ Ns k u);have n2:x.length<=200:=qfQ g (by have X:=P.o;have Z:=sum_take_le Ns (k+1);have h5:=n.o;omega);have s:zK (WordsAt wr wr.heap.size C x):=(T.words.keep f.o).more f.o.size;have m:=zH (qfN s.o U0 K g);have N:=zH (plus_c M C B x c1 x.length wr r.o.words s.o l.o.1 g.1 U0 U0);have H:=zH R;clear d t g R T D;go_wp2_with fail;refine m.o.mono ?_;rintro e w' ⟨rfl,rfl⟩;clear m;go_wp2_with fail;refine N.o.mono ?_;rintro e w' ⟨v,rfl,z,h⟩;have W:=zH z;have i:=zH (f.o.trans (h.mono f.o.size));have E:=zH f.o.size;clear z h N y;go_wp2;go_roundw;case rel=>refine⟨k+1,U0,U3,?_,i.o⟩;rw[n.o,<- q.o,<- H.o];exact W.o.low E.o
    case measure=>simp[intOf];omega
  . (obtain rfl:k=Ns.length:=by omega);have V:=zH (trim_c M B c1 wr r.o.words U0 J);clear D;go_wp2_with fail;refine V.o.mono ?_;rintro e w' ⟨v,rfl,ho,h⟩;have U:=zH ho;have i:=zH (f.o.trans (h.mono f.o.size));clear ho h;go_wp2;go_ret;refine⟨_,rfl,?_,i.o⟩;(have e:Ns.sum=val BB B:=by rw[q.o,List.take_length]);rw[e];exact(U.o.nat l.o.1).low f.o.size
theorem val_cut(p:Nat)(l:LN)(k:Nat)(b:k<=l.length):val p l=val p (l.take k)+p^k*val p (l.drop k):=by have:=val_app p (l.take k) (l.drop k);rw[List.take_append_drop,List.length_take,Nat.min_eq_left b] at this;exact this
theorem qfU(p:Nat)(l:LN)(k:Nat)(b:k<l.length):val p (l.drop k)=l.getD k 0+p*val p (l.drop (k+1)):=by rw[List.drop_eq_getElem_cons b,val];simp[List.getD,b]
theorem take_lt{l:LN}(h:∀d∈l,d<BB){k:Nat}(b:k<=l.length):val BB (l.take k)<BB^k:=by have:=val_ltB (l:=l.take k) fun d hd=>h d (List.mem_of_mem_take hd);rw[List.length_take,Nat.min_eq_left b] at this;exact this
theorem top_lt{a b:LN}(i:∀d∈a,d<BB){k:Nat}(g:k<a.length)(h:k<b.length)(j:val BB (a.drop (k+1))=val BB (b.drop (k+1)))(l:a.getD k 0<b.getD k 0):val BB a<val BB b:=by rw[val_cut BB a k U0,val_cut BB b k U0,qfU BB a k g,qfU BB b k h,j];have f:=take_lt i (k:=k) U0;have c:BB^k*(a.getD k 0+BB*val BB (b.drop (k+1))+1)<=BB^k*(b.getD k 0+BB*val BB (b.drop (k+1))):=Nat.mul_le_mul_left _ U0;rw[Nat.mul_add,Nat.mul_one] at c;omega
theorem short_lt{a b:LN}(g:Cn a)(h:Cn b)(i:a.length<b.length):val BB a<val BB b:=by have c:=val_ltB g.1;have d:=cn_ge h U0;have f:BB^a.length<=BB^(b.length-1):=Nat.pow_le_pow_right dc U0;omega
def cmpN(M N:Nat):Int:=if M<N then -1 else if N<M then 1 else 0
theorem cmp_c(A1 A2:OA)(W X:LN)(c1 c2:Nat)(w:Wo)(Z:WordsAt w w.heap.size A1 W)(h2:WordsAt w w.heap.size A2 X)(d1:Cn W)(d2:Cn X)(n1:W.length<=100000)(n2:X.length<=100000)(aa:W.length<=c1)(ab:X.length<=c2):
 zC 217 #[zL A1 W.length c1,zL A2 X.length c2] w fun e w'=>e=.returned (Y (cmpN (val BB W) (val BB X)))/\zB w w':=by
 have l:=zH (qfN Z U0 aa d1);have m:=zH (qfN h2 U0 ab d2);have L:=zH Z;have M:=zH h2;have q:=zH d1;have r:=zH d2;clear Z h2 d1 d2;go_enter func217,ntmps217;go_wp2_with fail;refine l.o.mono ?_;rintro e w' ⟨rfl,rfl⟩;go_wp2_with fail;refine m.o.mono ?_;rintro e w' ⟨rfl,rfl⟩;clear l m;by_cases I:W.length=X.length
 . (have B : (W.length : Int) = (X.length : Int) := by omega);go_wp2;go_loopw [5] (fun v5 wr=>∃ k:Nat,k<=W.length/\v5=Y ((k:Int)-1)/\val BB (W.drop k)=val BB (X.drop k)/\zB w wr) (fun v5 _=>(intOf v5+1).toNat);case atStart=>exact ⟨W.length,Nat.le_refl _,by rw [I],by rw [List.drop_length,I,List.drop_length],Below.refl _ _⟩
   case round =>
    obtain⟨k,T,rfl,H,E⟩:=hrel;have p:=zH E;have j:=zH H;clear E H;rcases k with _|k
    . (have c:zK (cmpN (val BB W) (val BB X)=0):=by have:=j.o;rw[List.drop_zero,List.drop_zero] at this;show _=_;unfold cmpN;rw[if_neg U0,if_neg U0]);go_wp2;go_ret;exact⟨by rw[c.o];rfl,p.o⟩
    . obtain ⟨N,P,rfl,U,J⟩ := (L.out.keep p.o).at_ (k := k) U0;obtain ⟨O,Q,rfl,V,K⟩:=(M.out.keep p.o).at_ (k:=k) U0;have u:=zH (fun h=>top_lt q.out.1 (b:=X) (k:=k) U0 U0 j.o h);have v:=zH (fun h=>top_lt r.out.1 (b:=W) (k:=k) U0 U0 j.o.symm h);(have s:zK (W.getD k 0=X.getD k 0->val BB (W.drop k)=val BB (X.drop k)):=fun h=>by rw [qfU BB W k U0,qfU BB X k U0,j.o,h]);have D:((k+1:Nat):Int)-1=(k:Int):=U0;rw [D];generalize W.getD k 0=f at *;generalize X.getD k 0=g at *;have i:zK (zB w wr.drew):=p.o.trans (zV.drew);have d:zK (zB w wr.drew.drew):=i.o.trans (zV.drew);clear j D;by_cases x:f<g
      . (have c:zK (cmpN (val BB W) (val BB X)=-1):=by show _=_;unfold cmpN;rw[if_pos (u.o x)]);have y:(f:Int)<(g:Int):=U0;go_upto_region 9 with fail;go_region;go_wp2;go_ret;exact⟨by rw[c.o];rfl,i.o⟩
      . (have y : ¬ (f : Int) < (g : Int) := by omega);have R:wr.drew.cell? (zA N (P+k))=some (.int .u32 (f:Int)):=J;have S:wr.drew.cell? (zA O (Q+k))=some (.int .u32 (g:Int)):=K;go_upto_region 9 with fail;go_region;clear J K;generalize wr.drew=wd at *;by_cases z:g<f
        . (have c:zK (cmpN (val BB W) (val BB X)=1):=by have:=v.o z;show _=_;unfold cmpN;rw[if_neg U0,if_pos this]);have A:(g:Int)<(f:Int):=U0;go_upto_region 11 with fail;go_region;go_wp2;go_ret;exact⟨by rw[c.o];rfl,d.o⟩
        . (have A : ¬(g : Int)< (f : Int):=by omega);have t:=zH (s.o U0);go_upto_region 11 with fail;go_region;go_wp2;go_roundw;case rel=>exact⟨k,U0,rfl,t.o,d.o⟩
          case measure=>simp[intOf]
 . (have B : ¬(W.length : Int) = (X.length : Int):=by omega);by_cases C:W.length<X.length
   . (have n:(W.length:Int)<(X.length:Int):=by omega);(have c:zK (cmpN (val BB W) (val BB X)=-1):=by show _=_;unfold cmpN;rw[if_pos (short_lt q.out r.out C)]);go_wp2;go_ret;exact⟨by rw[c.o];rfl,Below.refl _ _⟩
   . (have n:¬(W.length:Int)<(X.length:Int):=by omega);(have c:zK (cmpN (val BB W) (val BB X)=1):=by have:=short_lt r.out q.out U0;show _=_;unfold cmpN;rw[if_neg U0,if_pos this]);go_wp2;go_ret;exact⟨by rw[c.o];rfl,Below.refl _ _⟩
end Go.Proofs.YtkcdlealipfnbaaGreat
namespace Go.Proofs.YtkcdlealipfnbaaGreat
open Go.RowKit Go.ChangeShapes Go.WideShapes Go.Deep Go.ChangeAt Go.Proofs.Tryz
section
variable {H:Type} {enc:TypeId × Value->H} {P:Program}
theorem post_of_below{f:Func}{s:ChangeSpec}{o B q A:Bool}{W C:Wo}{args:Array Value}{v:Value}{D E:List (DataW H)}{n pa pv:List MemPlace}(I:DataW.Whole enc P f.params.toList s.vars o W args.toList D E n)(z:∀ (b:Nat)(sp:Nat->Bool)(hd:Bool),DataW.TrodAll enc P C b sp hd f.resultTypes.toList (v.resultList f.resultTypes.size) (s.fn H (D++E)).results [])(u:∀ sp:Nat->Bool,(∀ p∈n,sp p.block=true)->DataW.TrodAll enc P C 0 sp true f.params.toList args.toList (s.fn H (D++E)).args pa)(x:∀ sp:Nat->Bool,(∀ p∈n,sp p.block=true)->DataW.TrodVars enc P C sp s.vars (s.fn H (D++E)).vars pv)(y:n=pa++pv)(K:zB W C)(J:∀ (j:Nat)(t:TypeId)(r:Value),f.resultTypes[j]?=some t->(v.resultList f.resultTypes.size)[j]?=some r->Value.okWide P C .any 0 t r):
 s.post enc P f o B q A W args v C:=by
 have h:=fun p c=>I.lt p c;have d:∀p∈n,(fun b=>decide (b<W.heap.size)) p.block=true:=fun p c=>by simpa using h p c
 refine⟨D,E,n,[],pa,pv,I,z _ _ _,u _ d,x _ d,World.keptBut_mono (fun p c=>⟨c,?_⟩) (K.frame (·∈n)),fun _=>?_⟩
 . rw[y,List.mem_append] at c;exact Or.inr c
 . obtain⟨_,_,_,_,_,m,l⟩:=I;refine⟨J,_,_,([]++pa)++pv,⟨[]++pa,pv,trodAll_append (u _ (fun _ _=>rfl)) (z _ _ _),x _ (fun _ _=>rfl),rfl,?_,?_⟩,?_⟩
   . intro b i c;(have g:MemPlace.cell b i∈n:=by rw[y];simpa using c);rw[K.frozen (h _ g)];exact m b i g
   . intro k;have:=l k;rw[y] at this;simpa using this
   . intro p c _;rw[y];simpa using c
end
theorem own:ownKnob prog.godebug=none:=U1
theorem laidOut:laidOutB prog=true:=U1
section
variable {H:Type} {enc:TypeId × Value->H} {w:Wo} {base:Nat} {spare:Nat->Bool} {held:Bool}
theorem cellsInt:prog.cellsOf 3=1:=U1
theorem cellsInts:prog.cellsOf 23=1:=U1
theorem cellsRows:prog.cellsOf 30=1:=U1
theorem cellsField:prog.cellsOf 29=3:=U1
theorem qdQ{a:Addr}{v:Value}(h:w.cell? a=some v):a=(zA a.block a.off):=by
 obtain⟨b,o,s⟩:=a;cases s with
 |none=>rfl
 |some s=>unfold World.cell? at h;split at h<;>simp at h
theorem qbT{d:Nat}{c:Value}{x:DataW H × List MemPlace}(h:DataW.trod enc prog w base spare held d 3 [c]=some x):∃n,c=Y n:=by obtain⟨n,b,_,_⟩:=DataW.trod_int underlying3 h;exact⟨n,by simpa using b⟩
theorem ints_cell{v:Nat}{c:Value}{x:DataW H × List MemPlace}(h:DataW.trod enc prog w base spare held v 23 [c]=some x):
 ∃(zs:LI)(A:OA)(k:Nat),c=zL A zs.length k/\zs.length<=maxLen/\zI w A zs:=by
 rcases open_slice1 underlying23 cellsInt h with⟨b,_⟩|⟨a,len,cap,m,n,V,D,s,g,_,t,u,l,_,o⟩
 . exact⟨[],none,0,by simpa using b,U2,fun h=>absurd h U2⟩
 . (have r:len<=m:=by rw[l];split<;>omega);have p:∀i,i<len->∃z,V i=Y z:=fun i hi=>qbT (o i U0).2;refine⟨(List.range len).map fun i=>intOf (V i),some a,cap,by simpa using g,so,fun hz=>?_⟩;simp only[List.length_map,List.length_range] at hz ⊢;have b:=(o 0 U0).1;have q:a.add 0=a:=rfl;rw[q] at b;refine⟨a.block,a.off,congrArg some (qdQ b),World.block_lt_of_cell? w _ b,fun j hj=>?_⟩;have f:=(o j U0).1;obtain⟨z,e⟩:=p j hj;(have d:a.add j=(zA a.block (a.off+j)):=by rw[qdQ b];exact Addr.add_mid _ _ _);rw[d] at f;rw[f,e];simp[List.getD,hj,e,intOf]
theorem rows_cell{I:Nat}{c:Value}{x:DataW H × List MemPlace}(h:DataW.trod enc prog w base spare held I 30 [c]=some x):
 ∃(zs:List LI)(A:OA)(k:Nat),c=zL A zs.length k/\zs.length<=maxLen/\zs.length<=k/\zR w A zs:=by
 rcases open_slice1 underlying30 cellsInts h with⟨b,_⟩|⟨a,len,cap,m,n,V,D,B,p,_,C,E,q,_,r⟩
 . exact⟨[],none,0,by simpa using b,U2,U2,fun h=>absurd h U2⟩
 . (have y : len <= m := by rw [q];split <;> omega);have o:∀ i,i<len->∃ (zs:LI)(A:OA)(k:Nat),V i=zL A zs.length k/\zs.length<=maxLen/\zI w A zs:=fun i g=>ints_cell (r i U0).2
   obtain⟨f,u⟩:∃f:Nat->LI,∀i,i<len->∃(A:OA)(k:Nat),V i=zL A (f i).length k/\(f i).length<=maxLen/\zI w A (f i):=
    ⟨fun i=>if h:i<len then Classical.choose (o i h) else[],fun i g=>by simp only[g,dif_pos];exact Classical.choose_spec (o i g)⟩
   refine⟨(List.range len).map f,some a,cap,by simpa using p,so,so,fun hz=>?_⟩;simp only[List.length_map,List.length_range] at hz ⊢;have b:=(r 0 U0).1;have t:a.add 0=a:=rfl;rw[t] at b;refine⟨a.block,a.off,congrArg some (qdQ b),World.block_lt_of_cell? w _ b,fun j hj=>?_⟩;have l:=(r j U0).1;obtain⟨s,z,e,_,g⟩:=u j hj;(have d:a.add j=(zA a.block (a.off+j)):=by rw[qdQ b];exact Addr.add_mid _ _ _);rw[d] at l;(have v:((List.range len).map f).getD j []=f j:=by simp[List.getD,hj]);rw[v];exact⟨s,z,by rw[l,e],g⟩
theorem qaU{o:Nat}{t:TypeId}{r:Array Field}{cs:List Value}{x:DataW H × List MemPlace}(v:prog.underlying t=some (.struct r))(h:DataW.trod enc prog w base spare held o t cs=some x)(i:Nat)(q:TypeId)(p k:Nat)(s:(r[i]?).map (fun f=>(f.type,f.offset))=some (q,p))(u:prog.cellsOf q=k):
 ∃n y,n<o/\DataW.trod enc prog w base spare held n q ((cs.drop p).take k)=some y:=by obtain⟨j,n,m,_,_,d,g⟩:=DataW.trod_struct v h;obtain⟨f,b,c⟩:=Option.map_eq_some_iff.1 s;have l:=(Array.getElem?_eq_some_iff.1 b).1;simp only[Prod.mk.injEq] at c;obtain⟨rfl,rfl⟩:=c;subst u;exact⟨n,j[i]'U0,U0,by rw[g i f b,List.getElem?_eq_getElem]⟩
end
end Go.Proofs.YtkcdlealipfnbaaGreat
namespace Go.Proofs.YtkcdlealipfnbaaGreat
open Go.RowKit Go.ChangeShapes Go.WideShapes Go.Deep Go.Proofs.Tryz
section
variable {H:Type} {enc:TypeId × Value->H} {w:Wo} {base:Nat} {spare:Nat->Bool} {held:Bool}
theorem cellsCode:prog.cellsOf 32=5:=U1
theorem cellsRun:prog.cellsOf 34=5:=U1
theorem cellsMono:prog.cellsOf 36=3:=U1
theorem cellsExcl:prog.cellsOf 38=1:=U1
theorem cellsStep:prog.cellsOf 40=23:=U1
theorem qeB{i:Nat}{t e:TypeId}{c:Value}{x:DataW H × List MemPlace}(j:prog.underlying t=some (.slice e))(h:DataW.trod enc prog w base spare held i t [c]=some x):
 ∃(A:OA)(n k:Nat),c=zL A n k/\n<=maxLen:=by
 rcases DataW.trod_slice j h with⟨d,_⟩|⟨a,len,cap,_,_,_,_,b,_,_,f,g,_⟩
 . exact⟨none,0,0,by simpa using d,U2⟩
 . exact⟨some a,len,cap,by simpa using b,U0⟩
theorem field_cells{q:Nat}{a b c:Value}{x:DataW H × List MemPlace}(h:DataW.trod enc prog w base spare held q 29 [a,b,c]=some x):
 ∃(p m:Int)(zs:LI)(A:OA)(k:Nat),a=Y p/\b=Y m/\c=zL A zs.length k/\zs.length<=maxLen/\zI w A zs:=by obtain⟨_,_,_,i⟩:=qaU underlying29 h 0 3 0 1 rfl cellsInt;obtain⟨_,_,_,j⟩:=qaU underlying29 h 1 3 1 1 rfl cellsInt;obtain⟨_,_,_,l⟩:=qaU underlying29 h 2 23 2 1 rfl cellsInts;obtain⟨p,d⟩:=qbT i;obtain⟨m,f⟩:=qbT j;obtain⟨zs,A,k,g,o,n⟩:=ints_cell l;exact⟨p,m,zs,A,k,d,f,g,o,n⟩
theorem step_cells{aa:Nat}{cs:List Value}{x:DataW H × List MemPlace}(hl:cs.length=23)(h:DataW.trod enc prog w base spare held aa 40 cs=some x):
 ∃d:StD,StC w w.heap.size d cs/\d.ok:=by
 match cs,hl with
 | [c0,c1,c2,c3,c4,c5,c6,c7,c8,c9,c10,c11,c12,c13,c14,c15,c16,c17,c18,c19,c20,c21,c22],_ =>
   obtain⟨_,_,_,R⟩:=qaU underlying40 h 0 3 0 1 rfl cellsInt
   obtain⟨_,_,_,l⟩:=qaU underlying40 h 1 32 1 5 rfl cellsCode
   obtain⟨_,_,_,S⟩:=qaU underlying40 h 2 3 6 1 rfl cellsInt
   obtain⟨_,_,_,T⟩:=qaU underlying40 h 3 23 7 1 rfl cellsInts
   obtain⟨_,_,_,U⟩:=qaU underlying40 h 4 23 8 1 rfl cellsInts
   obtain⟨_,_,_,V⟩:=qaU underlying40 h 5 29 9 3 rfl cellsField
   obtain⟨_,_,_,c⟩:=qaU underlying40 h 6 34 12 5 rfl cellsRun
   obtain⟨_,_,_,W⟩:=qaU underlying40 h 7 23 17 1 rfl cellsInts
   obtain⟨_,_,_,X⟩:=qaU underlying40 h 8 23 18 1 rfl cellsInts
   obtain⟨_,_,_,q⟩:=qaU underlying40 h 9 36 19 3 rfl cellsMono
   obtain⟨_,_,_,o⟩:=qaU underlying40 h 10 38 22 1 rfl cellsExcl
   obtain⟨f,rfl⟩:=qbT R
   obtain⟨_,_,_,O⟩:=qaU underlying32 l 0 29 0 3 rfl cellsField
   obtain⟨_,_,_,P⟩:=qaU underlying32 l 1 3 3 1 rfl cellsInt
   obtain⟨_,_,_,Q⟩:=qaU underlying32 l 2 30 4 1 rfl cellsRows
   obtain⟨p,m,mod,z,K,rfl,rfl,rfl,l3,i3⟩:=field_cells O
   obtain⟨n,rfl⟩:=qbT P
   obtain⟨k,y,J,rfl,l5,s,i5⟩:=rows_cell Q
   obtain⟨low,rfl⟩:=qbT S
   obtain⟨j,v,I,rfl,l7,i7⟩:=ints_cell T
   obtain⟨at_,t,ca,rfl,l8,i8⟩:=ints_cell U
   obtain⟨E,D,b,u,cb,rfl,rfl,rfl,r,Z⟩:=field_cells V
   obtain⟨_,_,_,r0⟩:=qaU underlying34 c 0 3 0 1 rfl cellsInt
   obtain⟨_,_,_,r1⟩:=qaU underlying34 c 1 3 1 1 rfl cellsInt
   obtain⟨_,_,_,r2⟩:=qaU underlying34 c 2 3 2 1 rfl cellsInt
   obtain⟨_,_,_,r3⟩:=qaU underlying34 c 3 3 3 1 rfl cellsInt
   obtain⟨_,_,_,r4⟩:=qaU underlying34 c 4 3 4 1 rfl cellsInt
   obtain⟨z0,rfl⟩:=qbT r0
   obtain⟨z1,rfl⟩:=qbT r1
   obtain⟨z2,rfl⟩:=qbT r2
   obtain⟨z3,rfl⟩:=qbT r3
   obtain⟨z4,rfl⟩:=qbT r4
   obtain⟨A,np,cp,rfl,lp⟩:=qeB underlying23 W
   obtain⟨B,nq,L,rfl,lq⟩:=qeB underlying23 X
   obtain⟨_,_,_,m0⟩:=qaU underlying36 q 0 23 0 1 rfl cellsInts
   obtain⟨_,_,_,m1⟩:=qaU underlying36 q 1 23 1 1 rfl cellsInts
   obtain⟨_,_,_,m2⟩:=qaU underlying36 q 2 3 2 1 rfl cellsInt
   obtain⟨Ar,nr,M,rfl,lr⟩:=qeB underlying23 m0
   obtain⟨C,ns,i,rfl,ls⟩:=qeB underlying23 m1
   obtain⟨z5,rfl⟩:=qbT m2
   obtain⟨_,_,_,t0⟩:=qaU underlying38 o 0 30 0 1 rfl cellsRows
   obtain⟨g,At,N,rfl,lt,_,it⟩:=rows_cell t0
   exact⟨⟨f,p,m,mod,n,k,low,j,at_,E,D,b.length,z0,z1,z2,z3,z4,np,nq,nr,ns,z5,g⟩,
    ⟨z,y,v,t,u,A,B,Ar,C,At,K,J,I,ca,cb,cp,L,M,i,N,rfl,s,i3,i5,i7,i8,it⟩,l3,l5,l7,l8,r,lp,lq,lr,ls,lt⟩
end
end Go.Proofs.YtkcdlealipfnbaaGreat
