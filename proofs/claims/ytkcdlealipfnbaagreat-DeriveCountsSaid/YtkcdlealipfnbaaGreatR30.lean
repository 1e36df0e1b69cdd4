/- Parts of the proof. -/
import Derived.Test.YtkcdlealipfnbaaGreatR28
set_option maxRecDepth 100000
set_option maxHeartbeats 8000000
namespace Go.Proofs.YtkcdlealipfnbaaGreat
open Go.RowKit Pln
structure ExtOk (w':Wo) (p1 m1:Int) (mod1:LI) (p m:Int) (mod:LI) (n:Int) (gv:OA) (A:OA) (nA:Nat) (a:Int) (gb r:Nat):Prop where
 g:gv=some (zA gb 0)
 ok:fieldOK p m mod=true
 ok1:fieldOK p1 m1 mod1=true
 pp:p1=p
 len:nA=p1.toNat^m1.toNat
 gf:GFM w' w'.heap.size gb p.toNat m.toNat mod (lOf p m mod) (logL (lOf p m mod) (p.toNat^m.toNat))
 rq:r<p.toNat^m.toNat
 root:m1=1\/evN (opsT p.toNat m.toNat (lOf p m mod)) (mdOf m1 mod1++[1]) r=0
 im:zI w' A (nz ((List.range nA).map (imN (opsT p.toNat m.toNat (lOf p m mod)) p.toNat m1.toNat r)))
 ro:RootOk p m mod n a
 n1:1<=n
 n2:n<=64
structure ExtF (p1 m1:Int) (mod1:LI) (p m:Int) (mod:LI) (n:Nat) (a r:Nat):Prop where
 ok:fieldOK p m mod=true
 ok1:fieldOK p1 m1 mod1=true
 pp:p1=p
 rq:r<p.toNat^m.toNat
 root:m1=1\/evN (opsT p.toNat m.toNat (lOf p m mod)) (mdOf m1 mod1++[1]) r=0
 aq:a<p.toNat^m.toNat
 a0:a≠0
 ord:(n:Int)=((ordT (logL (lOf p m mod) (p.toNat^m.toNat)) (p.toNat^m.toNat) a:Nat):Int)
 n1:1<=n
 n2:n<=64
end Go.Proofs.YtkcdlealipfnbaaGreat
