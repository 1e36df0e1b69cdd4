/-
 Plain: the laws of a field with tables. The program's field: powers, orders of elements. poly.Eval; poly.trim and poly.Canon where nothing changes.
-/
import Derived.Test.YtlmglaonldlanaaGreatQ09
import Derived.Test.YtlmglaonldlanaaGreatQ16
namespace Go.Proofs.YtlmglaonldlanaaGreat
open Pln
namespace Al
structure Fld (q:Nat) (O:Ops):Prop where
 q1:1<q
 addL:∀ x y,x<q->y<q->O.add x y<q
 mulL:∀ x y,x<q->y<q->O.mul x y<q
 negL:∀ x,x<q->O.neg x<q
 invL:∀ x,x<q->x≠0->O.inv x<q
 addC:∀ x y,x<q->y<q->O.add x y=O.add y x
 addA:∀ x y z,x<q->y<q->z<q->O.add (O.add x y) z=O.add x (O.add y z)
 addZ:∀ x,x<q->O.add 0 x=x
 addN:∀ x,x<q->O.add x (O.neg x)=0
 mulC:∀ x y,x<q->y<q->O.mul x y=O.mul y x
 mulA:∀ x y z,x<q->y<q->z<q->O.mul (O.mul x y) z=O.mul x (O.mul y z)
 mulU:∀ x,x<q->O.mul 1 x=x
 mulZ:∀ x,x<q->O.mul 0 x=0
 dist:∀ x y z,x<q->y<q->z<q->O.mul x (O.add y z)=O.add (O.mul x y) (O.mul x z)
 inv:∀ x,x<q->x≠0->O.mul x (O.inv x)=1
theorem addD_s (p k x y:Nat):addD p (k+1) x y=(x % p+y % p) % p+p*addD p k (x / p) (y / p):=rfl
theorem negD_s (p k x:Nat):negD p (k+1) x=(p-x % p) % p+p*negD p k (x / p):=rfl
theorem addD_mod {p:Nat} (_hp:0<p) (k x y:Nat):addD p (k+1) x y % p=(x+y) % p:=by
 rw [addD_s,Nat.add_mul_mod_self_left,Nat.mod_mod,<- Nat.add_mod]
theorem addD_div {p:Nat} (hp:0<p) (k x y:Nat):addD p (k+1) x y / p=addD p k (x / p) (y / p):=by
 rw [addD_s,Nat.add_mul_div_left _ _ hp,Nat.div_eq_of_lt (Nat.mod_lt _ hp),Nat.zero_add]
theorem addD_comm (p:Nat):∀ k x y,addD p k x y=addD p k y x
 | 0,_,_=>rfl
 | k + 1,x,y => by
   rw [addD_s,addD_s,addD_comm p k,Nat.add_comm (x % p)]
theorem addD_assoc {p:Nat} (hp:0<p):∀ k x y z,addD p k (addD p k x y) z=addD p k x (addD p k y z)
 | 0,_,_,_=>rfl
 | k + 1,x,y,z => by
   show (addD p (k+1) x y % p+z % p) % p+p*addD p k (addD p (k+1) x y / p) (z / p)=(x % p+addD p (k+1) y z % p) % p+p*addD p k (x / p) (addD p (k+1) y z / p)
   rw [addD_mod hp,addD_div hp,addD_mod hp,addD_div hp,addD_assoc hp k,<- Nat.add_mod,<- Nat.add_mod,Nat.add_assoc]
theorem addD_id {p:Nat} (hp:0<p):∀ k x,x<p ^ k->addD p k 0 x=x
 | 0,x,h => by
   simp at h
   subst h
   rfl
 | k + 1,x,h => by
   have h1:x / p<p ^ k:=by rw [Nat.div_lt_iff_lt_mul hp];rwa [Nat.pow_succ] at h
   rw [addD_s,Nat.zero_mod,Nat.zero_add,Nat.mod_mod,Nat.zero_div,addD_id hp k _ h1]
   exact Nat.mod_add_div x p
theorem addD_neg {p:Nat} (hp:0<p):∀ k x,addD p k x (negD p k x)=0
 | 0,_=>rfl
 | k + 1,x => by
   have h1:negD p (k+1) x % p=(p-x % p) % p:=by
    rw [negD_s,Nat.add_mul_mod_self_left,Nat.mod_mod]
   have h2:negD p (k+1) x / p=negD p k (x / p):=by
    rw [negD_s,Nat.add_mul_div_left _ _ hp,Nat.div_eq_of_lt (Nat.mod_lt _ hp),Nat.zero_add]
   have h3:x % p<p:=Nat.mod_lt _ hp
   show (x % p+negD p (k+1) x % p) % p+p*addD p k (x / p) (negD p (k+1) x / p)=0
   rw [h1,h2,addD_neg hp k]
   have h4:(x % p+(p-x % p) % p) % p=0:=by
    rw [Nat.add_mod_mod,show x % p+(p-x % p)=p by omega,Nat.mod_self]
   rw [h4]
   rfl
def zw (p:Nat) (a b:List Nat):List Nat:=List.zipWith (fun x y=>(x+y) % p) a b
theorem zw_dig {p m:Nat} (hp:0<p) {a b:List Nat} (ha:a.length=m) (hb:b.length=m):Dig p m (zw p a b):=by
 refine ⟨by simp [zw,ha,hb],fun d hd=>?_⟩
 unfold zw at hd
 obtain ⟨i,hi,rfl⟩:=List.mem_iff_getElem.1 hd
 rw [List.getElem_zipWith]
 exact Nat.mod_lt _ hp
theorem zw_F {p m:Nat} {a b:List Nat} (ha:a.length=m) (hb:b.length=m):Cg p (F (zw p a b)) (fun j=>1*F a j+F b j):=by
 refine Cg.mk fun j=>?_
 unfold F zw
 by_cases hj:j<m
 . have e : (List.zipWith (fun x y => (x + y) % p) a b).getD j 0 = (a.getD j 0 + b.getD j 0) % p := by
    simp [List.getD,List.getElem?_zipWith,List.getElem?_eq_getElem (show j<a.length by omega),List.getElem?_eq_getElem (show j<b.length by omega)]
   rw [e]
   simp
 . rw [qcL (by simp;omega),qcL (by omega),qcL (by omega)]
   simp
theorem mulL_dist {p m:Nat} (hp:0<p) (md a b c:List Nat) (ha:a.length=m) (hb:b.length=m) (hc:c.length=m):Pln.mulL p m md a (zw p b c)=zw p (Pln.mulL p m md a b) (Pln.mulL p m md a c):=by
 have d1:=qaY (m:=m) hp md a b
 have d2:=qaY (m:=m) hp md a c
 have d3:=qaY (m:=m) hp md a (zw p b c)
 have dz:=zw_dig hp hb hc
 have d4:=zw_dig hp d1.1 d2.1
 refine F_inj (d3.1.trans d4.1.symm) d3.2 d4.2 ?_
 refine (qbN hp md a _ ha dz.1).trans (Cg.trans ?_ (zw_F d1.1 d2.1).symm)
 refine (mz_cg (Cg.refl _ _) (zw_F hb hc)).trans (Cg.trans (Cg.of_eq ?_) (Cg.lin 1 (qbN hp md a b ha hb).symm (qbN hp md a c ha hc).symm))
 unfold mz
 exact qeW m (F md) 1 (F b) (F c) (F a) m
theorem digs_add {p:Nat} (hp:0<p) (m x y:Nat):digs p m (addD p m x y)=zw p (digs p m x) (digs p m y):=by
 have h:=zw_dig hp (qaK p m x) (qaK p m y)
 rw [addD_val]
 have:=qdP hp _ h.2
 rw [h.1] at this
 exact this
theorem val_zw {p:Nat} (hp:0<p) {m:Nat} {a b:List Nat} (ha:Dig p m a) (hb:Dig p m b):val p (zw p a b)=addD p m (val p a) (val p b):=by
 have h1:=qdP hp _ ha.2
 have h2:=qdP hp _ hb.2
 rw [ha.1] at h1
 rw [hb.1] at h2
 rw [addD_val,h1,h2]
 rfl
theorem mulM_dist {p m:Nat} (hp:0<p) (md:List Nat) (x y z:Nat):mulM p m md x (addD p m y z)=addD p m (mulM p m md x y) (mulM p m md x z):=by
 unfold mulM
 rw [digs_add hp,mulL_dist hp md _ _ _ (qaK p m x) (qaK p m y) (qaK p m z)]
 exact val_zw hp (qaY hp md _ _) (qaY hp md _ _)
theorem fld_of {p m:Nat} {md l:List Nat} (h:FT p m md l):Fld (p ^ m) (opsT p m l):=by
 have hp:0<p:=by have:=h.small.p1;omega
 have H:=qaU (p:=p) (m:=m) (by have:=h.small.p1;omega) h.small.m1 md
 have E:∀ x y,x<p ^ m->y<p ^ m->(opsT p m l).mul x y=mulM p m md x y:=fun x y hx hy=>h.tab.mul_eq H hx hy
 have M:∀ x y,x<p ^ m->y<p ^ m->(opsT p m l).mul x y<p ^ m:=fun x y hx hy=>qcZ h hx hy
 have A:∀ x y,(opsT p m l).add x y<p ^ m:=fun x y=>qeO hp m x y
 refine ⟨H.q1,fun x y _ _=>A x y,M,fun x _=>qfN hp m x,fun x hx h0=>(h.tab.inv H h0 hx).2.1,fun x y _ _=>addD_comm p m x y,fun x y z _ _ _=>addD_assoc hp m x y z,fun x hx=>addD_id hp m x hx,fun x _=>addD_neg hp m x,?_,?_,?_,?_,?_,?_⟩
 . intro x y hx hy
   rw [E x y hx hy,E y x hy hx]
   exact H.comm x y
 . intro x y z hx hy hz
   rw [E _ z (M x y hx hy) hz,E x y hx hy,E x _ hx (M y z hy hz),E y z hy hz]
   exact H.assoc x y z
 . intro x hx
   rw [E 1 x H.q1 hx]
   exact H.one x hx
 . intro x hx
   rw [E 0 x (by have:=H.q1;omega) hx]
   exact H.zero x
 . intro x y z hx hy hz
   rw [E x _ hx (A y z),E x y hx hy,E x z hx hz]
   exact mulM_dist hp md x y z
 . intro x hx h0
   exact (E x _ hx (h.tab.inv H h0 hx).2.1).trans (h.tab.inv H h0 hx).1
theorem addD_small {p:Nat} (_hp:0<p) {m:Nat} (hm:1<=m) {a b:Nat} (ha:a<p) (hb:b<p):addD p m a b=(a+b) % p:=by
 obtain ⟨k,rfl⟩:∃ k,m=k+1:=⟨m-1,by omega⟩
 rw [addD_s,Nat.mod_eq_of_lt ha,Nat.mod_eq_of_lt hb,Nat.div_eq_of_lt ha,Nat.div_eq_of_lt hb,addD_zero]
 rfl
end Al
end Go.Proofs.YtlmglaonldlanaaGreat
namespace Go.Proofs.YtlmglaonldlanaaGreat
open Go.RowKit Pln
def powT (l lg:List Nat) (q x n:Nat):Nat:=if n=0 then 1 else if x=0 then 0 else l.getD (lg.getD x 0*(n % (q-1)) % (q-1)) 0
set_option maxHeartbeats 1000000 in
set_option maxRecDepth 100000 in
theorem pow_c (x n gb p m B:Nat) (md l:List Nat) (w:World) (hF:FT p m md l) (hG:GFAt w B gb p m l (logL l (p ^ m))) (hx:x<p ^ m) (hn:n<=1000000) :
 Calls Tryz.prog 105 #[.pointer (some ⟨gb,0,none⟩),.int .i64 x,.int .i64 n] w (Quiet (.tuple #[.int .i64 ((powT l (logL l (p ^ m)) (p ^ m) x n:Nat):Int),.int .i64 0]) w):=by
 have HIX:=Lib.hid (in_c x gb p m B l _ w hG hx)
 have hq2:=hF.small.q
 have hll:=hF.tab.len
 have hlgl:=logL_len l (p ^ m)
 have HLX:Hid (x≠0->(logL l (p ^ m)).getD x 0<p ^ m-1):=fun h=>hF.log hx h
 have hq1:=(qaU (p:=p) (m:=m) (by have:=hF.small.p1;omega) hF.small.m1 md).q1
 obtain ⟨_,_,_,ge,ce,gl,cl,_,h3,h4,h5,hE,hL⟩:=hG.cells
 rw [hll] at h4
 rw [hlgl] at h5
 have hcx:=hL x (by rw [hlgl];exact hx)
 have HE:Hid (∀ j,j<p ^ m-1->w.cell? ⟨ge,j,none⟩=some (.int .i64 ((l.getD j 0:Nat):Int))):=fun j hj=>hE j (by rw [hll];exact hj)
 clear hE hL hll hlgl hF hG
 generalize logL l (p ^ m)=lg at *
 generalize p ^ m=q at *
 by_cases hn0:n=0
 . have HM : Hid (powT l lg q x n = 1) := by show _ = _;unfold powT;rw [if_pos hn0]
   have hnb:((n:Int)==0)=true:=by simp;exact hn0
   clear hn0 HE HLX h3 h4 h5 hcx
   go_enter Tryz.func105,Tryz.ntmps105
   go_wp2_with (go_at_call 158;(with_reducible refine HIX.out.mono ?_);rintro e w' ⟨rfl,rfl⟩)
   go_ret2
   exact ⟨by rw [HM.out];rfl,0,rfl⟩
 have hnb:((n:Int)==0)=false:=by simp;exact hn0
 have hnl:¬ (n:Int)<0:=by omega
 by_cases hx0:x=0
 . have HM : Hid (powT l lg q x n = 0) := by show _ = _;unfold powT;rw [if_neg hn0,if_pos hx0]
   have hxb:((x:Int)==0)=true:=by simp;exact hx0
   clear hn0 hx0 HE HLX h3 h4 h5 hcx
   go_enter Tryz.func105,Tryz.ntmps105
   go_wp2_with (go_at_call 158;(with_reducible refine HIX.out.mono ?_);rintro e w' ⟨rfl,rfl⟩)
   go_ret2
   exact ⟨by rw [HM.out];rfl,0,rfl⟩
 have hxb:((x:Int)==0)=false:=by simp;exact hx0
 have HM:Hid (powT l lg q x n=l.getD (lg.getD x 0*(n % (q-1)) % (q-1)) 0):=by show _=_;unfold powT;rw [if_neg hn0,if_neg hx0]
 have hlx:=HLX.out hx0
 clear HLX hx0 hn0
 generalize lg.getD x 0=lx at *
 have ha:n % (q-1)<q-1:=Nat.mod_lt _ (by omega)
 have E3:Hid (Int.tmod (n:Int) ((q:Int)-1)=((n % (q-1):Nat):Int)):=by
  show _=_
  rw [<- qbF,Int.natCast_sub (by omega)]
  rfl
 generalize n % (q-1)=a at *
 have E5:Hid (Int.tmod ((a:Int)+((q:Int)-1)) ((q:Int)-1)=(a:Int)):=by
  have h:Int.tmod (((a+(q-1):Nat)):Int) ((q-1:Nat):Int)=(((a+(q-1)) % (q-1):Nat):Int):=qbF _ _
  rw [Nat.add_mod_right,Nat.mod_eq_of_lt ha,Int.natCast_add,Int.natCast_sub (by omega)] at h
  exact h
 have hrl:lx*a % (q-1)<q-1:=Nat.mod_lt _ (by omega)
 have hmul:lx*a<=256*256:=Nat.mul_le_mul (by omega) (by omega)
 have hcr:=HE.out _ hrl
 have HTM:Hid (Int.tmod ((lx:Int)*(a:Int)) ((q:Int)-1)=((lx*a % (q-1):Nat):Int)):=by
  show _=_
  rw [<- qbF,Int.natCast_mul,Int.natCast_sub (by omega)]
  rfl
 have hmi:(lx:Int)*(a:Int)<=65536/\0<=(lx:Int)*(a:Int):=by
  have:(lx:Int)*(a:Int)=((lx*a:Nat):Int):=by rw [Int.natCast_mul]
  omega
 have E1:Hid (IntKind.i64.wrap ((lx:Int)*(a:Int))=(lx:Int)*(a:Int)):=IntWalk.i64_in _ (by omega)
 have E2:Hid (IntKind.i64.wrap ((q:Int)-1)=(q:Int)-1):=IntWalk.i64_in _ (by omega)
 have E4:Hid (IntKind.i64.wrap ((a:Int)+((q:Int)-1))=(a:Int)+((q:Int)-1)):=IntWalk.i64_in _ (by omega)
 clear HE hmul hmi
 generalize lx*a % (q-1)=r at *
 generalize l.getD r 0=res at *
 have j1:(0:Int)<=(x:Int):=by omega
 have j2:(x:Int)<(q:Int):=by omega
 have j5:(0:Int)<=(r:Int):=by omega
 have j6:(r:Int)<((q-1:Nat):Int):=by omega
 have j7:¬ (q:Int)-1=0:=by omega
 go_enter Tryz.func105,Tryz.ntmps105
 have e1:=E1.out
 have e2:=E2.out
 have e3:=E3.out
 have e4:=E4.out
 have e5:=E5.out
 have e6:=HTM.out
 go_upto_region 10 with (go_at_call 158;(with_reducible refine HIX.out.mono ?_);rintro e w' ⟨rfl,rfl⟩)
 go_quiet (fail)
 clear e1 e2 e3 e4 e5 e6
 go_wp2_with fail
 go_ret2
 exact ⟨by rw [HM.out];rfl,nq,rfl⟩
def ordT (lg:List Nat) (q x:Nat):Nat:=(q-1) / Nat.gcd (q-1) (lg.getD x 0)
def RelGo (G q:Nat) (w:World) (v6 v7:Value) (wr:World):Prop:=∃ a b n:Nat,v6=.int .i64 a/\v7=.int .i64 b/\0<a/\a<=q/\b<=q/\Nat.gcd a b=G/\wr=w.drewN n
set_option maxHeartbeats 1000000 in
set_option maxRecDepth 100000 in
theorem mulorder_c (x gb p m B:Nat) (md l:List Nat) (w:World) (hF:FT p m md l) (hG:GFAt w B gb p m l (logL l (p ^ m))) (hx:x<p ^ m) :
 Calls Tryz.prog 207 #[.pointer (some ⟨gb,0,none⟩),.int .i64 x] w (Quiet (.tuple #[.int .i64 ((if x=0 then 0 else ordT (logL l (p ^ m)) (p ^ m) x:Nat):Int),.int .i64 (if x=0 then 7 else 0)]) w):=by
 have HIX:=Lib.hid (in_c x gb p m B l _ w hG hx)
 have hq2:=hF.small.q
 have hll:=hF.tab.len
 have hlgl:=logL_len l (p ^ m)
 have HLX:Hid (x≠0->(logL l (p ^ m)).getD x 0<p ^ m-1):=fun h=>hF.log hx h
 have hq1:=(qaU (p:=p) (m:=m) (by have:=hF.small.p1;omega) hF.small.m1 md).q1
 obtain ⟨_,_,_,ge,ce,gl,cl,_,h3,h4,h5,hE,hL⟩:=hG.cells
 rw [hll] at h4
 rw [hlgl] at h5
 have hcx:=hL x (by rw [hlgl];exact hx)
 clear hE hL hll hlgl hF hG
 generalize logL l (p ^ m)=lg at *
 generalize p ^ m=q at *
 by_cases hx0:x=0
 . rw [if_pos hx0,if_pos hx0]
   have hxb:((x:Int)==0)=true:=by simp;exact hx0
   clear hx0 HLX h3 h4 h5 hcx
   go_enter Tryz.func207,Tryz.ntmps207
   go_wp2_with (go_at_call 158;(with_reducible refine HIX.out.mono ?_);rintro e w' ⟨rfl,rfl⟩)
   go_ret2
   exact ⟨rfl,0,rfl⟩
 rw [if_neg hx0,if_neg hx0]
 have hxb:((x:Int)==0)=false:=by simp;exact hx0
 have hlx:=HLX.out hx0
 have HM:Hid (ordT lg q x=(q-1) / Nat.gcd (q-1) (lg.getD x 0)):=rfl
 clear HLX hx0
 generalize lg.getD x 0=lx at *
 generalize ordT lg q x=res at *
 have hgp:0<Nat.gcd (q-1) lx:=Nat.gcd_pos_of_pos_left _ (by omega)
 have HG2:Hid (∀ a,a=Nat.gcd (q-1) lx->Int.tdiv ((q:Int)-1) (a:Int)=(res:Int)):=fun a ha=>by
  rw [HM.out,<- ha]
  have:((q:Int)-1)=((q-1:Nat):Int):=by omega
  rw [this]
  rfl
 clear HM
 have j1:(0:Int)<=(x:Int):=by omega
 have j2:(x:Int)<(q:Int):=by omega
 have E2:Hid (IntKind.i64.wrap ((q:Int)-1)=(q:Int)-1):=IntWalk.i64_in _ (by omega)
 have HR0:Hid (∀ n,RelGo (Nat.gcd (q-1) lx) q w (.int .i64 ((q:Int)-1)) (.int .i64 (lx:Int)) (w.drewN n)):=fun n=>⟨q-1,lx,n,by rw [Int.natCast_sub (by omega)];rfl,rfl,by omega,by omega,by omega,rfl,rfl⟩
 generalize Nat.gcd (q-1) lx=G at *
 go_enter Tryz.func207,Tryz.ntmps207
 have e2:=E2.out
 go_upto_region 4 with (go_at_call 158;(with_reducible refine HIX.out.mono ?_);rintro e w' ⟨rfl,rfl⟩)
 go_quiet (fail)
 have HR1:=Lib.hid (HR0.out nq)
 clear HR0 hcx h4 h5 e2
 have HW:Hid (∀ n,(w.drewN n).cell? ⟨gb,3,none⟩=some (.int .i64 (q:Int))):=fun n=>h3
 clear h3
 go_wp2_with fail
 generalize hwe:w.drewN nq=w1 at *
 go_loopw [6,7] (fun v6 v7 wr=>RelGo G q w v6 v7 wr) (fun _ v7 _=>(intOf v7).toNat)
 case atStart=>exact HR1.out
 case round =>
  obtain ⟨a,b,n,rfl,rfl,ha,haq,hbq,hg,rfl⟩:=hrel
  by_cases hb0:b=0
  . subst hb0
    rw [Nat.gcd_zero_right] at hg
    subst hg
    have y3:=HW.out n
    have e3:=HG2.out a rfl
    have j7:¬ (a:Int)=0:=by omega
    have e2:=E2.out
    have hbnd:IntKind.i64.wrap (res:Int)=(res:Int):=by
     have:(res:Int)<=(q:Int):=by
      rw [<- e3]
      have h1:((q:Int)-1)=((q-1:Nat):Int):=by omega
      rw [h1]
      have h2:Int.tdiv ((q-1:Nat):Int) (a:Int)=(((q-1) / a:Nat):Int):=rfl
      rw [h2]
      have:=Nat.div_le_self (q-1) a
      omega
     exact IntWalk.i64_in _ (by omega)
    go_wp2_with fail
    go_ret2
    exact ⟨rfl,n,rfl⟩
  . have hbp : (0 : Int) < (b : Int) := by omega
    have j7:¬ (b:Int)=0:=by omega
    have hlt:a % b<b:=Nat.mod_lt _ (by omega)
    have e3:Int.tmod (a:Int) (b:Int)=((a % b:Nat):Int):=qbF _ _
    have hg2:Nat.gcd b (a % b)=G:=by
     rw [<- hg,Nat.gcd_comm a b,Nat.gcd_comm b (a % b),<- Nat.gcd_rec]
    clear hg hb0
    generalize a % b=c at *
    go_upto_region 6 with fail
    go_quiet (fail)
    go_wp2_with fail
    go_roundw
    case rel=>exact ⟨b,c,n+nq,rfl,rfl,by omega,by omega,by omega,hg2,by first | rfl | rw [World.drewN_drewN]⟩
    case measure=>simp [intOf];omega
end Go.Proofs.YtlmglaonldlanaaGreat
namespace Go.Proofs.YtlmglaonldlanaaGreat
open Go.RowKit Pln
def evN (O:Ops):List Nat->Nat->Nat
 | [],_=>0
 | a :: r,x=>O.add (O.mul (evN O r x) x) a
theorem evN_step {O:Ops} {v:List Nat} {k x:Nat} (hk:k<v.length):evN O (v.drop k) x=O.add (O.mul (evN O (v.drop (k+1)) x) x) (v.getD k 0):=by
 rw [List.drop_eq_getElem_cons hk]
 have:v.getD k 0=v[k]:=by simp [List.getD,hk]
 rw [this]
 rfl
def RelEv (w:World) (q:Nat) (O:Ops) (v:List Nat) (x:Nat) (v7 v8:Value) (wr:World):Prop :=
 ∃ (k y n:Nat) (i:Int),k<=v.length/\v7=.int .i64 y/\v8=.int .i64 i/\i+1=(k:Int)/\y<q/\evN O (v.drop k) x=y/\wr=w.drewN n
set_option maxHeartbeats 1000000 in
set_option maxRecDepth 100000 in
theorem eval_c (gb p m B:Nat) (md l v:List Nat) (x:Nat) (A:Option Addr) (c:Nat) (w:World) (hF:FT p m md l) (hG:GFAt w B gb p m l (logL l (p ^ m))) (hv:∀ a∈v,a<p ^ m) (hx:x<p ^ m) (hA:IntsAt w B A (nz v)) (hl:v.length<=1000) :
 Calls Tryz.prog 162 #[.pointer (some ⟨gb,0,none⟩),.slice A v.length c,.int .i64 x] w (Quiet (.int .i64 ((evN (opsT p m l) v x:Nat):Int)) w):=by
 have hq0:0<p ^ m:=by have:=hF.small.p1;exact Nat.pow_pos (by omega)
 have HC:Hid (∀ y n,y<p ^ m->Calls Tryz.prog 142 #[.pointer (some ⟨gb,0,none⟩),.int .i64 (y:Int),.int .i64 (x:Int)] (w.drewN n) (Quiet (.int .i64 (((opsT p m l).mul y x:Nat):Int)) (w.drewN n))) :=
  fun y n hy=>mul_c y x gb p m B md l (w.drewN n) hF hG hy hx
 have HD:Hid (∀ x y n,x<p ^ m->y<p ^ m->Calls Tryz.prog 143 #[.pointer (some ⟨gb,0,none⟩),.int .i64 (x:Int),.int .i64 (y:Int)] (w.drewN n) (Quiet (.int .i64 (((opsT p m l).add x y:Nat):Int)) (w.drewN n))) :=
  fun x y n hx hy=>add_c x y gb p m B l _ (w.drewN n) hF.small hG hx hy
 have HML:Hid (∀ y,y<p ^ m->(opsT p m l).mul y x<p ^ m):=fun y hy=>qcZ hF hy hx
 have HAL:Hid (∀ x y,x<p ^ m->y<p ^ m->(opsT p m l).add x y<p ^ m):=fun x y _ _=>qeO (by have:=hF.small.p1;omega) m x y
 have HVQ:Hid (∀ k,k<v.length->v.getD k 0<p ^ m):=fun k hk=>by
  have:v.getD k 0=v[k]:=by simp [List.getD,hk]
  rw [this]
  exact hv _ (List.getElem_mem hk)
 have HV:=Lib.hid hA
 have HR0:Hid (RelEv w (p ^ m) (opsT p m l) v x (.int .i64 ((0:Nat):Int)) (.int .i64 ((v.length:Int)-1)) w):=⟨v.length,0,0,_,Nat.le_refl _,rfl,rfl,by omega,hq0,by rw [List.drop_length];rfl,rfl⟩
 clear hF hG hv hA
 generalize opsT p m l=O at *
 generalize p ^ m=q at *
 have E0:IntKind.i64.wrap ((v.length:Int)-1)=(v.length:Int)-1:=IntWalk.i64_in _ (by omega)
 go_enter Tryz.func162,Tryz.ntmps162
 go_wp2_with fail
 clear E0
 go_loopw [7,8] (fun v7 v8 wr=>RelEv w q O v x v7 v8 wr) (fun _ v8 _=>(intOf v8+1).toNat)
 case atStart=>exact HR0.out
 case round =>
  obtain ⟨k,y,n,i,hk,rfl,rfl,hik,hy,hinv,rfl⟩:=hrel
  have HINV:=Lib.hid hinv
  clear hinv HR0
  rcases Nat.eq_zero_or_pos k with rfl | hk0
  . obtain rfl : i = -1 := by omega
    have HE:Hid (evN O v x=y):=by
     have:=HINV.out
     rw [List.drop_zero] at this
     exact this
    go_wp2_with fail
    go_ret
    exact ⟨qaD (by rw [HE.out]),n,rfl⟩
  . obtain ⟨j,rfl⟩ : ∃ j,k = j + 1 := ⟨k - 1,by omega⟩
    obtain rfl:i=(j:Int):=by omega
    obtain ⟨bv,ov,rfl,hbv,hcv⟩:=HV.out.at_ (k:=j) (by rw [qaB];omega)
    rw [qaF] at hcv
    have HST:Hid (evN O (v.drop j) x=O.add (O.mul y x) (v.getD j 0)):=by show _=_;rw [evN_step (by omega),HINV.out]
    have hz:=HVQ.out j (by omega)
    have k0:(0:Int)<=(j:Int):=by omega
    have k1:(j:Int)<(v.length:Int):=by omega
    have hw:IntKind.i64.wrap ((j:Int)-1)=(j:Int)-1:=IntWalk.i64_in _ (by omega)
    generalize v.getD j 0=z at *
    have HCU:Hid (∀ W,SDrew (w.drewN n) W->W.cell? ⟨bv,ov+j,none⟩=some (.int .i64 z)):=fun W ⟨j,hW⟩=>by
     subst hW
     exact hcv
    have HM:Hid (∀ W,SDrew (w.drewN n) W->Calls Tryz.prog 142 #[.pointer (some ⟨gb,0,none⟩),.int .i64 (y:Int),.int .i64 (x:Int)] W fun e w'=>e=.returned (.int .i64 ((O.mul y x:Nat):Int))/\SDrew (w.drewN n) w'):=fun W ⟨j,hW⟩=>by
     subst hW
     rw [World.drewN_drewN]
     refine (HC.out y _ hy).mono ?_
     rintro e w' ⟨he,i,rfl⟩
     exact ⟨he,j+i,by rw [World.drewN_drewN,World.drewN_drewN,Nat.add_assoc]⟩
    have hmq:=HML.out y hy
    have HAD:Hid (∀ W,SDrew (w.drewN n) W->Calls Tryz.prog 143 #[.pointer (some ⟨gb,0,none⟩),.int .i64 ((O.mul y x:Nat):Int),.int .i64 (z:Int)] W fun e w'=>e=.returned (.int .i64 ((O.add (O.mul y x) z:Nat):Int))/\SDrew (w.drewN n) w'):=fun W ⟨j,hW⟩=>by
     subst hW
     rw [World.drewN_drewN]
     refine (HD.out _ z _ hmq hz).mono ?_
     rintro e w' ⟨he,i,rfl⟩
     exact ⟨he,j+i,by rw [World.drewN_drewN,World.drewN_drewN,Nat.add_assoc]⟩
    have hsq:=HAL.out _ z hmq hz
    clear hcv HC HD HV
    go_upto_region 5 with fail
    refine qaH (SDrew (w.drewN n)) (by kernel_rfl) (by kernel_rfl) ⟨1,rfl⟩ ?_
    repeat (first
     | (apply qaM rfl
        . intro W hS
          have y0:=HCU.out W hS
          go_simp
          try rfl
        go_simp)
     | (apply qaV rfl
        . intro W hS
          go_simp
          exact ⟨rfl,rfl⟩
        . intro W hS
          first
           | exact HM.out W hS
           | exact HAD.out W hS
        go_simp))
    refine qaJ ?_
    intro w2 hS2
    obtain ⟨t,rfl⟩:=hS2
    rw [World.drewN_drewN]
    go_wp2_with fail
    go_roundw
    case rel=>exact ⟨j,_,_,_,by omega,rfl,rfl,by omega,hsq,HST.out,rfl⟩
    case measure=>first | (simp [intOf];done) | (simp [intOf];omega)
set_option maxHeartbeats 1000000 in
set_option maxRecDepth 100000 in
theorem trim_keep (v:List Nat) (A:Option Addr) (c:Nat) (w:World) (hA:IntsAt w w.heap.size A (nz v)) (h0:0<v.length) (hl:v.length<=1000) (hne:v.getD (v.length-1) 0≠0) :
 Calls Tryz.prog 255 #[.slice A v.length c] w fun e w'=>e=.returned (.slice A v.length c)/\w=w':=by
 obtain ⟨b,o,rfl,hb,hc⟩:=hA.at_ (k:=v.length-1) (by rw [qaB];omega)
 rw [qaF] at hc
 generalize v.getD (v.length-1) 0=x at *
 have hxb:((x:Int)==0)=false:=beq_false_of_ne (by omega)
 obtain ⟨n,hn⟩:∃ n,v.length=n+1:=⟨v.length-1,by omega⟩
 rw [hn] at hc ⊢
 rw [show n+1-1=n by omega] at hc
 have E0:IntKind.i64.wrap (((n+1:Nat):Int)-1)=(n:Int):=by rw [IntWalk.i64_in _ (by omega)];omega
 have k0:(0:Int)<=(n:Int):=by omega
 have k1:(n:Int)<((n+1:Nat):Int):=by omega
 have k2:(0:Int)<((n+1:Nat):Int):=by omega
 clear hA hne
 generalize n+1=n1 at *
 go_enter Tryz.func255,Tryz.ntmps255
 go_wp2_with fail
 go_loopw [0] (fun v0 wr=>v0=.slice (some ⟨b,o,none⟩) n1 c/\wr=w) (fun _ _=>0)
 case atStart=>exact ⟨rfl,rfl⟩
 case round =>
  obtain ⟨rfl,rfl⟩:=hrel
  go_wp2_with fail
  go_ret
  exact ⟨rfl,rfl⟩
def canK (v:List Nat) (k:Nat):List Nat:=v.take k++List.replicate (v.length-k) 0
theorem canK_len (v:List Nat) (k:Nat) (hk:k<=v.length):(canK v k).length=v.length:=by simp [canK];omega
theorem canK_set (v:List Nat) (k:Nat) (hk:k<v.length):(canK v k).set k (v.getD k 0)=canK v (k+1):=by
 have h:=scK_set id v k hk
 unfold scK at h
 unfold canK
 simpa using h
def RelCn (w:World) (v:List Nat) (v13:Value) (wr:World):Prop :=
 ∃ k:Nat,k<=v.length/\v13=.int .i64 k/\Row wr w.heap.size w.heap.size v.length (nz (canK v k))/\Below w.heap.size w wr
set_option maxHeartbeats 1000000 in
set_option maxRecDepth 100000 in
theorem canon_keep (gb p m:Nat) (l lg v:List Nat) (A:Option Addr) (c:Nat) (w:World) (hG:GFAt w w.heap.size gb p m l lg) (hv:∀ x∈v,x<p ^ m) (hA:IntsAt w w.heap.size A (nz v)) (h0:0<v.length) (hl:v.length<=1000) (hne:v.getD (v.length-1) 0≠0) :
 Calls Tryz.prog 235 #[.pointer (some ⟨gb,0,none⟩),.slice A v.length c] w fun e w'=>e=.returned (.slice (some ⟨w.heap.size,0,none⟩) v.length v.length)/\Row w' w.heap.size w.heap.size v.length (nz v)/\Below w.heap.size w w':=by
 obtain ⟨i0,hi,hz0,hz1,hz2⟩:=qaG infoInt
 have HI:=Lib.hid hi
 have HZ0:=Lib.hid hz0
 have HZ1:=Lib.hid hz1
 have HB2:=Lib.hid (show i0.bytes*v.length<=281474976710656 by rw [hz2];omega)
 have HB3:=Lib.hid (show v.length<=maxLen by unfold maxLen;omega)
 have HA:=Lib.hid hA
 have HIS:Hid (∀ x W,x<p ^ m->Below w.heap.size w W->Calls Tryz.prog 196 #[.pointer (some ⟨gb,0,none⟩),.int .i64 (x:Int)] W fun e w'=>e=.returned (.bool true)/\W=w'):=fun x W hx hb=>by
  have:=is_c (x:Int) gb p m w.heap.size l lg W (hG.keep hb)
  rw [decide_eq_true (by omega:(0:Int)<=(x:Int)),decide_eq_true (by omega:(x:Int)<((p ^ m:Nat):Int))] at this
  exact this
 have HV:Hid (∀ k,k<v.length->v.getD k 0<p ^ m):=fun k hk=>by
  have:v.getD k 0=v[k]:=by simp [List.getD,hk]
  rw [this]
  exact hv _ (List.getElem_mem hk)
 have HTR:Hid (∀ W,Row W w.heap.size w.heap.size v.length (nz v)->Calls Tryz.prog 255 #[.slice (some ⟨w.heap.size,0,none⟩) v.length v.length] W fun e w'=>e=.returned (.slice (some ⟨w.heap.size,0,none⟩) v.length v.length)/\W=w'):=fun W hr=>trim_keep v _ _ W (hr.ints hr.lt.2) h0 hl hne
 clear hi hz0 hz1 hz2 hA hG hv hne
 generalize p ^ m=q at *
 go_enter Tryz.func235,Tryz.ntmps235
 go_wp2_with (refine wpList_make_full w rfl (.tmp 9) (.tmp 9) 23 rfl w.heap.size 3 i0 (.int .i64 0) 1 Tryz.underlying23 HI.out HZ0.out HZ1.out .i64 .i64 v.length v.length v.length rfl rfl rfl rfl HB2.out HB3.out (Nat.le_refl _) ?_;intro w1 hown hgr)
 have HS:Hid (RelCn w v (.int .i64 ((0:Nat):Int)) w1):=⟨0,by omega,rfl,by have:=Row.of_make hown;exact this,qaL hgr⟩
 clear hown hgr
 go_loopw [13] (fun v13 wr=>RelCn w v v13 wr) (fun v13 _=>v.length-(intOf v13).toNat)
 case atStart=>exact HS.out
 case round =>
  obtain ⟨k,hk,rfl,hrow,hb⟩:=hrel
  have HR:=Lib.hid hrow
  have HB:=Lib.hid hb
  clear hrow hb HS
  by_cases hlt:k<v.length
  . obtain ⟨b,o,rfl,hbl,hc⟩ := (HA.out.keep HB.out).at_ (k := k) (by rw [qaB];exact hlt)
    rw [qaF] at hc
    have hxq:=HV.out k hlt
    have HST:=Lib.hid (canK_set v k hlt)
    have k0:(0:Int)<=(k:Int):=by omega
    have k1:(k:Int)<(v.length:Int):=by omega
    have hw:IntKind.i64.wrap ((k:Int)+1)=(k:Int)+1:=IntWalk.i64_in _ (by omega)
    have y0:=HR.out.cell (j:=k) (by rw [qaB,canK_len v k hk];exact hlt)
    have f0:=HR.out.frozen k
    generalize v.getD k 0=x at *
    have HC:=Lib.hid (HIS.out x wr hxq HB.out)
    go_wp2_with fail
    refine HC.out.mono ?_
    rintro e w' ⟨rfl,rfl⟩
    go_wp2_with fail
    go_roundw
    case rel=>exact ⟨k+1,by omega,by go_num,by rw [<- HST.out,<- qbX];exact HR.out.set k x,HB.out.setCell (p:=⟨w.heap.size,k,none⟩) (Nat.le_refl _) _⟩
    case measure=>simp [intOf];omega
  . obtain rfl : k = v.length := by omega
    have HR2:Hid (Row wr w.heap.size w.heap.size v.length (nz v)):=by
     have h:=HR.out
     unfold canK at h
     rw [List.take_length,Nat.sub_self,List.replicate_zero,List.append_nil] at h
     exact h
    have HC:=Lib.hid (HTR.out wr HR2.out)
    go_wp2_with fail
    refine HC.out.mono ?_
    rintro e w' ⟨rfl,rfl⟩
    go_wp2_with fail
    go_ret
    exact ⟨rfl,HR2.out,HB.out⟩
end Go.Proofs.YtlmglaonldlanaaGreat
