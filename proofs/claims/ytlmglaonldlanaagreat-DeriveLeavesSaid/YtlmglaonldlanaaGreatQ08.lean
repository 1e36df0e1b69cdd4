/-
 The program's field: elements, products, inverses.
-/
import Derived.Test.YtlmglaonldlanaaGreatQ07
namespace Go.Proofs.YtlmglaonldlanaaGreat
open Go.RowKit Pln
structure FT (p m:Nat) (md l:List Nat):Prop where
 small:Small p m
 tab:Tab (p ^ m) (mulM p m md) l
def Quiet (v:Value) (w:World) (e:Ending) (w':World):Prop:=e=.returned v/\∃ n,w'=w.drewN n
section
variable {w:World} {B gb p m:Nat} {l lg:List Nat}
theorem GFAt.cells (h:GFAt w B gb p m l lg):∃ (_A3:Option Addr) (_n3 _c3 ge ce gl cl:Nat),
 w.cell? ⟨gb,0,none⟩=some (.int .i64 p)/\w.cell? ⟨gb,3,none⟩=some (.int .i64 ((p ^ m:Nat):Int))/\w.cell? ⟨gb,4,none⟩=some (.slice (some ⟨ge,0,none⟩) l.length ce)/\w.cell? ⟨gb,5,none⟩=some (.slice (some ⟨gl,0,none⟩) lg.length cl) /\
 (∀ j,j<l.length->w.cell? ⟨ge,j,none⟩=some (.int .i64 ((l.getD j 0:Nat):Int)))/\(∀ j,j<lg.length->w.cell? ⟨gl,j,none⟩=some (.int .i64 ((lg.getD j 0:Nat):Int))):=by
 obtain ⟨h0,A3,n3,c3,ge,ce,gl,cl,h1,h2,h3⟩:=h
 refine ⟨A3,n3,c3,ge,ce,gl,cl,cell_of_row _ _ 0 _ _ _ h1,cell_of_row _ _ 3 _ _ _ h1,cell_of_row _ _ 4 _ _ _ h1,cell_of_row _ _ 5 _ _ _ h1,fun j hj=>?_,fun j hj=>?_⟩
 . obtain ⟨b,o,e,_,hc⟩ := h2.at_ (k := j) (by rw [qaB];exact hj)
   injection e with e
   injection e with e1 e2
   subst e1 e2
   rw [<- qaF,<- hc,Nat.zero_add]
 . obtain ⟨b,o,e,_,hc⟩ := h3.at_ (k := j) (by rw [qaB];exact hj)
   injection e with e
   injection e with e1 e2
   subst e1 e2
   rw [<- qaF,<- hc,Nat.zero_add]
end
set_option maxHeartbeats 400000 in
theorem is_c (x:Int) (gb p m B:Nat) (l lg:List Nat) (w:World) (hG:GFAt w B gb p m l lg) :
 Calls Tryz.prog 196 #[.pointer (some ⟨gb,0,none⟩),.int .i64 x] w fun e w'=>e=.returned (.bool (decide (0<=x) && decide (x<((p ^ m:Nat):Int))))/\w=w':=by
 obtain ⟨_,_,_,_,_,_,_,_,h3,_,_,_,_⟩:=hG.cells
 generalize p ^ m=q at *
 by_cases h0:0<=x
 . go_enter Tryz.func196,Tryz.ntmps196
   go_wp2_with fail
   go_ret
   exact ⟨qaO (by simp [h0]),rfl⟩
 . go_enter Tryz.func196,Tryz.ntmps196
   go_wp2_with fail
   go_ret
   exact ⟨qaO (by rw [decide_eq_false (by omega)];rfl),rfl⟩
set_option maxHeartbeats 400000 in
theorem in_c (x gb p m B:Nat) (l lg:List Nat) (w:World) (hG:GFAt w B gb p m l lg) (hx:x<p ^ m) :
 Calls Tryz.prog 158 #[.pointer (some ⟨gb,0,none⟩),.int .i64 x] w fun e w'=>e=.returned (.int .i64 x)/\w=w':=by
 have HC:Hid (Calls Tryz.prog 196 #[.pointer (some ⟨gb,0,none⟩),.int .i64 (x:Int)] w fun e w'=>e=.returned (.bool true)/\w=w'):=by
  have:=is_c x gb p m B l lg w hG
  rw [decide_eq_true (by omega:(0:Int)<=(x:Int)),decide_eq_true (by omega:(x:Int)<((p ^ m:Nat):Int))] at this
  exact this
 clear hG hx
 go_enter Tryz.func158,Tryz.ntmps158
 go_wp2_with (go_at_call 196;refine HC.out.mono ?_;rintro e w' ⟨rfl,rfl⟩)
 go_ret
 exact ⟨rfl,rfl⟩
theorem FT.log {p m:Nat} {md l:List Nat} (h:FT p m md l) {x:Nat} (hx:x<p ^ m) (h0:x≠0):(logL l (p ^ m)).getD x 0<p ^ m-1 :=
 (h.tab.log (qaU (by have:=h.small.p1;omega) h.small.m1 md) h0 hx).1
theorem logL_len (l:List Nat) (q:Nat):(logL l q).length=q:=by unfold logL;rw [qdE,List.length_replicate]
set_option maxHeartbeats 1000000 in
set_option maxRecDepth 100000 in
theorem mul_c (x y gb p m B:Nat) (md l:List Nat) (w:World) (hF:FT p m md l) (hG:GFAt w B gb p m l (logL l (p ^ m))) (hx:x<p ^ m) (hy:y<p ^ m) :
 Calls Tryz.prog 142 #[.pointer (some ⟨gb,0,none⟩),.int .i64 x,.int .i64 y] w (Quiet (.int .i64 ((mulT l (logL l (p ^ m)) (p ^ m) x y:Nat):Int)) w):=by
 have HIX:=Lib.hid (in_c x gb p m B l _ w hG hx)
 have HIY:=Lib.hid (in_c y gb p m B l _ w hG hy)
 have hq2:=hF.small.q
 have hll:=hF.tab.len
 have hlgl:=logL_len l (p ^ m)
 have HLX:Hid (x≠0->(logL l (p ^ m)).getD x 0<p ^ m-1):=fun h=>hF.log hx h
 have HLY:Hid (y≠0->(logL l (p ^ m)).getD y 0<p ^ m-1):=fun h=>hF.log hy h
 have hq1:=(qaU (p:=p) (m:=m) (by have:=hF.small.p1;omega) hF.small.m1 md).q1
 obtain ⟨_,_,_,ge,ce,gl,cl,_,h3,h4,h5,hE,hL⟩:=hG.cells
 rw [hll] at h4
 rw [hlgl] at h5
 have HLX2:=Lib.hid (hL x (by rw [hlgl];exact hx))
 have HLY2:=Lib.hid (hL y (by rw [hlgl];exact hy))
 have HE:Hid (∀ j,j<p ^ m-1->w.cell? ⟨ge,j,none⟩=some (.int .i64 ((l.getD j 0:Nat):Int))):=fun j hj=>hE j (by rw [hll];exact hj)
 clear hE hL hll hlgl hF hG
 generalize logL l (p ^ m)=lg at *
 generalize p ^ m=q at *
 by_cases hx0:x=0
 . have HM : Hid (mulT l lg q x y = 0) := by show _ = _;unfold mulT;rw [if_pos (.inl hx0)]
   have hxb:((x:Int)==0)=true:=by simp;exact hx0
   clear hx0 HE HLX HLY HLX2 HLY2 h3 h4 h5
   go_enter Tryz.func142,Tryz.ntmps142
   go_wp2_with (first | (go_at_call 158;(with_reducible refine HIX.out.mono ?_);rintro e w' ⟨rfl,rfl⟩) | (go_at_call 158;(with_reducible refine HIY.out.mono ?_);rintro e w' ⟨rfl,rfl⟩))
   go_ret
   exact ⟨qaD (by rw [HM.out];rfl),0,rfl⟩
 . by_cases hy0 : y = 0
   . have HM : Hid (mulT l lg q x y = 0) := by show _ = _;unfold mulT;rw [if_pos (.inr hy0)]
     have hxb:((x:Int)==0)=false:=by simp;exact hx0
     have hyb:((y:Int)==0)=true:=by simp;exact hy0
     clear hy0 hx0 HE HLX HLY HLX2 HLY2 h3 h4 h5
     go_enter Tryz.func142,Tryz.ntmps142
     go_wp2_with (first | (go_at_call 158;(with_reducible refine HIX.out.mono ?_);rintro e w' ⟨rfl,rfl⟩) | (go_at_call 158;(with_reducible refine HIY.out.mono ?_);rintro e w' ⟨rfl,rfl⟩))
     go_ret
     exact ⟨qaD (by rw [HM.out];rfl),0,rfl⟩
   . have HM : Hid (mulT l lg q x y = l.getD ((lg.getD x 0 + lg.getD y 0) % (q - 1)) 0) := by show _ = _;unfold mulT;rw [if_neg];rintro (h | h) <;> contradiction
     have hxb:((x:Int)==0)=false:=by simp;exact hx0
     have hyb:((y:Int)==0)=false:=by simp;exact hy0
     have hlx:=HLX.out hx0
     have hly:=HLY.out hy0
     have hcx:=HLX2.out
     have hcy:=HLY2.out
     clear HLX HLY HLX2 HLY2 hx0 hy0
     generalize lg.getD x 0=lx at *
     generalize lg.getD y 0=ly at *
     have hrl:(lx+ly) % (q-1)<q-1:=Nat.mod_lt _ (by omega)
     have hcr:=HE.out _ hrl
     have HTM:Hid (Int.tmod ((lx:Int)+(ly:Int)) ((q:Int)-1)=(((lx+ly) % (q-1):Nat):Int)):=by
      show _=_
      rw [<- qbF,Int.natCast_add,Int.natCast_sub (by omega)]
      rfl
     clear HE
     generalize (lx+ly) % (q-1)=r at *
     generalize l.getD r 0=res at *
     have j1:(0:Int)<=(x:Int):=by omega
     have j2:(x:Int)<(q:Int):=by omega
     have j3:(0:Int)<=(y:Int):=by omega
     have j4:(y:Int)<(q:Int):=by omega
     have j5:(0:Int)<=(r:Int):=by omega
     have j6:(r:Int)<((q-1:Nat):Int):=by omega
     have j7:¬ (q:Int)-1=0:=by omega
     have E1:Hid (IntKind.i64.wrap ((lx:Int)+(ly:Int))=(lx:Int)+(ly:Int)):=IntWalk.i64_in _ (by omega)
     have E2:Hid (IntKind.i64.wrap ((q:Int)-1)=(q:Int)-1):=IntWalk.i64_in _ (by omega)
     go_enter Tryz.func142,Tryz.ntmps142
     go_upto_region 4 with (first | (go_at_call 158;(with_reducible refine HIX.out.mono ?_);rintro e w' ⟨rfl,rfl⟩) | (go_at_call 158;(with_reducible refine HIY.out.mono ?_);rintro e w' ⟨rfl,rfl⟩))
     have e1:=E1.out
     have e2:=E2.out
     have e3:=HTM.out
     go_quiet (fail)
     clear e1 e2 e3
     go_wp2_with fail
     go_ret
     exact ⟨qaD (by rw [HM.out]),nq,rfl⟩
end Go.Proofs.YtlmglaonldlanaaGreat
namespace Go.Proofs.YtlmglaonldlanaaGreat
open Go.RowKit Pln
set_option maxHeartbeats 1000000 in
set_option maxRecDepth 100000 in
theorem inv_c (x gb p m B:Nat) (md l:List Nat) (w:World) (hF:FT p m md l) (hG:GFAt w B gb p m l (logL l (p ^ m))) (hx:x<p ^ m) (hx0:x≠0) :
 Calls Tryz.prog 101 #[.pointer (some ⟨gb,0,none⟩),.int .i64 x] w (Quiet (.tuple #[.int .i64 ((invT l (logL l (p ^ m)) (p ^ m) x:Nat):Int),.int .i64 0]) w):=by
 have HIX:=Lib.hid (in_c x gb p m B l _ w hG hx)
 have hq2:=hF.small.q
 have hll:=hF.tab.len
 have hlgl:=logL_len l (p ^ m)
 have hlx:(logL l (p ^ m)).getD x 0<p ^ m-1:=hF.log hx hx0
 have hq1:=(qaU (p:=p) (m:=m) (by have:=hF.small.p1;omega) hF.small.m1 md).q1
 obtain ⟨_,_,_,ge,ce,gl,cl,_,h3,h4,h5,hE,hL⟩:=hG.cells
 rw [hll] at h4
 rw [hlgl] at h5
 have hcx:=hL x (by rw [hlgl];exact hx)
 have HE:Hid (∀ j,j<p ^ m-1->w.cell? ⟨ge,j,none⟩=some (.int .i64 ((l.getD j 0:Nat):Int))):=fun j hj=>hE j (by rw [hll];exact hj)
 have HM:Hid (invT l (logL l (p ^ m)) (p ^ m) x=l.getD ((p ^ m-1-(logL l (p ^ m)).getD x 0) % (p ^ m-1)) 0):=rfl
 clear hE hL hll hlgl hF hG
 generalize logL l (p ^ m)=lg at *
 generalize p ^ m=q at *
 have hxb:((x:Int)==0)=false:=by simp;exact hx0
 clear hx0
 generalize lg.getD x 0=lx at *
 have hrl:(q-1-lx) % (q-1)<q-1:=Nat.mod_lt _ (by omega)
 have hcr:=HE.out _ hrl
 have HTM:Hid (Int.tmod ((q:Int)-1-(lx:Int)) ((q:Int)-1)=(((q-1-lx) % (q-1):Nat):Int)):=by
  show _=_
  rw [<- qbF,Int.natCast_sub (by omega),Int.natCast_sub (by omega)]
  rfl
 clear HE
 generalize (q-1-lx) % (q-1)=r at *
 generalize l.getD r 0=res at *
 have j1:(0:Int)<=(x:Int):=by omega
 have j2:(x:Int)<(q:Int):=by omega
 have j5:(0:Int)<=(r:Int):=by omega
 have j6:(r:Int)<((q-1:Nat):Int):=by omega
 have j7:¬ (q:Int)-1=0:=by omega
 have E1:Hid (IntKind.i64.wrap ((q:Int)-1-(lx:Int))=(q:Int)-1-(lx:Int)):=IntWalk.i64_in _ (by omega)
 have E2:Hid (IntKind.i64.wrap ((q:Int)-1)=(q:Int)-1):=IntWalk.i64_in _ (by omega)
 go_enter Tryz.func101,Tryz.ntmps101
 go_upto_region 4 with (go_at_call 158;(with_reducible refine HIX.out.mono ?_);rintro e w' ⟨rfl,rfl⟩)
 have e1:=E1.out
 have e2:=E2.out
 have e3:=HTM.out
 go_quiet (fail)
 clear e1 e2 e3
 go_wp2_with fail
 go_ret2
 exact ⟨by show Ending.returned (.tuple #[.int .i64 (res:Int),.int .i64 0])=_;rw [HM.out],nq,rfl⟩
structure Mid (p m N k s pl:Nat) (rest:Nat):Prop where
 sum:s+pl*rest=N
 place:pl*p ^ k=p ^ m
theorem Mid.bounds {p m N k s pl rest:Nat} (h:Mid p m N k s pl rest) (hN:N<p ^ m) (hq:p ^ m<=256) (hp:1<=p):s<=256/\pl<=256:=by
 have h1:=h.sum
 have h2:=h.place
 have h3:pl<=pl*p ^ k:=Nat.le_mul_of_pos_right _ (Nat.pow_pos (by omega))
 omega
theorem Mid.step {p m N k s pl d rest:Nat} (h:Mid p m N (k+1) s pl (d+p*rest)):Mid p m N k (s+d*pl) (pl*p) rest:=by
 refine ⟨?_,?_⟩
 . rw [<- h.sum,Nat.mul_add,Nat.mul_comm d pl,<- Nat.mul_assoc,Nat.add_assoc]
 . rw [<- h.place,Nat.pow_succ,Nat.mul_comm (p ^ k) p,Nat.mul_assoc]
theorem Mid.dpl {p m N k s pl d rest:Nat} (h:Mid p m N (k+1) s pl (d+p*rest)) (hN:N<p ^ m) (hq:p ^ m<=256) (hp:1<=p):(d:Int)*(pl:Int)<=256/\0<=(d:Int)*(pl:Int)/\(pl:Int)*(p:Int)<=256/\0<=(pl:Int)*(p:Int)/\(s:Int)+(d:Int)*(pl:Int)<=256:=by
 obtain ⟨b1,b2⟩:=h.step.bounds hN hq hp
 have e1:((d*pl:Nat):Int)=(d:Int)*(pl:Int):=Int.natCast_mul _ _
 have e2:((pl*p:Nat):Int)=(pl:Int)*(p:Int):=Int.natCast_mul _ _
 omega
def RelNeg (w:World) (p m N g:Nat) (v1 v5 v6:Value) (wr:World):Prop :=
 ∃ x s pl:Nat,v1=.int .i64 x/\v5=.int .i64 s/\v6=.int .i64 pl/\x<p ^ g/\Mid p m N g s pl (negD p g x)/\∃ n,wr=w.drewN n
set_option maxHeartbeats 1000000 in
set_option maxRecDepth 100000 in
theorem neg_c (x gb p m B:Nat) (l lg:List Nat) (w:World) (hs:Small p m) (hG:GFAt w B gb p m l lg) (hx:x<p ^ m) :
 Calls Tryz.prog 132 #[.pointer (some ⟨gb,0,none⟩),.int .i64 x] w (Quiet (.int .i64 ((negD p m x:Nat):Int)) w):=by
 have HIX:=Lib.hid (in_c x gb p m B l _ w hG hx)
 obtain ⟨hp1,hp2,hm1,hm2,hq⟩:=hs
 obtain ⟨_,_,_,_,_,_,_,h0,_,_,_,_,_⟩:=hG.cells
 have HN:Hid (negD p m x<p ^ m):=qfN (by omega) m x
 have HM0:Hid (Mid p m (negD p m x) m 0 1 (negD p m x)):=⟨by omega,by omega⟩
 have H0:=Lib.hid h0
 clear hG h0
 go_enter Tryz.func132,Tryz.ntmps132
 go_wp2_with (go_at_call 158;(with_reducible refine HIX.out.mono ?_);rintro e w' ⟨rfl,rfl⟩)
 go_loopg [1,5,6] m (fun g v1 v5 v6 wr=>RelNeg w p m (negD p m x) g v1 v5 v6 wr)
 case atStart=>exact ⟨x,0,1,rfl,rfl,rfl,hx,HM0.out,0,rfl⟩
 case round =>
  obtain ⟨y,s,pl,rfl,rfl,rfl,hy,hmid,n,rfl⟩:=hrel
  have HMID:=Lib.hid hmid
  have c0:w.cell? ⟨gb,0,none⟩=some (.int .i64 p):=H0.out
  clear hmid
  by_cases hy0:0<y
  . rcases gk with _ | k
    . simp at hy;omega
    . have HND : Hid (negD p (k + 1) y = (p - y % p) % p + p * negD p k (y / p)) := rfl
      have HMS:=Lib.hid HMID.out
      rw [HND.out] at HMS
      have hyd:y / p<p ^ k:=by rw [Nat.div_lt_iff_lt_mul (by omega)];rwa [Nat.pow_succ] at hy
      obtain ⟨b1,b2,b3,b4,b5⟩:=HMS.out.dpl HN.out hq (by omega)
      have HNX:=Lib.hid HMS.out.step
      have hyb:y<=256:=by
       have h1:p ^ (k+1)<=p ^ m:=by
        have h2:=HMS.out.place
        have h3:p ^ (k+1)<=pl*p ^ (k+1):=Nat.le_mul_of_pos_left _ (by
         rcases Nat.eq_zero_or_pos pl with h | h
         . rw [h,Nat.zero_mul] at h2
           have:0<p ^ m:=Nat.pow_pos (by omega)
           omega
         . exact h)
        omega
       omega
      have hyp:y % p<p:=Nat.mod_lt _ (by omega)
      have T1:Hid (Int.tmod (y:Int) (p:Int)=((y % p:Nat):Int)):=qbF y p
      have T3:Hid (((y / p:Nat):Int)=(y:Int) / (p:Int)):=rfl
      clear HMID HMS HND
      generalize y % p=r at *
      have T2:Hid (Int.tmod ((p:Int)-(r:Int)) (p:Int)=(((p-r) % p:Nat):Int)):=by
       show _=_
       rw [<- qbF,Int.natCast_sub (by omega)]
      generalize (p-r) % p=d at *
      have hp0:¬ (p:Int)=0:=by omega
      have hp00:¬ p=0:=by omega
      have E1:Hid (IntKind.i64.wrap ((p:Int)-(r:Int))=(p:Int)-(r:Int)):=IntWalk.i64_in _ (by omega)
      have E2:Hid (IntKind.i64.wrap ((d:Int)*(pl:Int))=(d:Int)*(pl:Int)):=IntWalk.i64_in _ (by omega)
      have E3:Hid (IntKind.i64.wrap ((s:Int)+(d:Int)*(pl:Int))=(s:Int)+(d:Int)*(pl:Int)):=IntWalk.i64_in _ (by omega)
      go_upto_region 4 with fail
      have t1:=T1.out
      have t2:=T2.out
      have e1:=E1.out
      have e2:=E2.out
      have e3:=E3.out
      go_quiet (fail)
      clear t1 t2 e1 e2 e3
      have q0:0<=(y:Int) / (p:Int):=Int.ediv_nonneg (by omega) (by omega)
      have q1:(y:Int) / (p:Int)<=(y:Int):=Int.ediv_le_self _ (by omega)
      go_wp2_with fail
      go_roundg k
      case measure=>omega
      case rel=>exact ⟨y / p,s+d*pl,pl*p,by rw [T3.out],by rw [Int.natCast_add,Int.natCast_mul],by rw [Int.natCast_mul],hyd,HNX.out,n+nq,rfl⟩
  . obtain rfl : y = 0 := by omega
    have HE:Hid (s=negD p m x):=by show _=_;have:=HMID.out.sum;rw [negD_zero] at this;omega
    go_wp2_with fail
    go_ret
    exact ⟨qaD (by rw [HE.out]),n,rfl⟩
end Go.Proofs.YtlmglaonldlanaaGreat
namespace Go.Proofs.YtlmglaonldlanaaGreat
open Go.RowKit Pln
theorem bits_xor (x y:Nat) (hx:x<=256) (hy:y<=256):bits .xor .i64 (x:Int) (y:Int)=((x ^^^ y:Nat):Int):=by
 have hlt:x ^^^ y<2 ^ 9:=Nat.xor_lt_two_pow (by omega) (by omega)
 have hx1:BitVec.ofInt 64 (x:Int)=BitVec.ofNat 64 x:=BitVec.ofInt_natCast _ _
 have hy1:BitVec.ofInt 64 (y:Int)=BitVec.ofNat 64 y:=BitVec.ofInt_natCast _ _
 have e:(BitVec.ofInt 64 (x:Int) ^^^ BitVec.ofInt 64 (y:Int)).toNat=x ^^^ y:=by
  rw [hx1,hy1,BitVec.toNat_xor,BitVec.toNat_ofNat,BitVec.toNat_ofNat,Nat.mod_eq_of_lt (by omega),Nat.mod_eq_of_lt (by omega)]
 show IntKind.i64.wrap (((BitVec.ofInt 64 (x:Int) ^^^ BitVec.ofInt 64 (y:Int)).toNat:Nat):Int)=_
 rw [e]
 exact IntWalk.i64_in _ (by omega)
def RelAdd (w:World) (p m N g:Nat) (v1 v2 v7 v8:Value) (wr:World):Prop :=
 ∃ x y s pl:Nat,v1=.int .i64 x/\v2=.int .i64 y/\v7=.int .i64 s/\v8=.int .i64 pl/\x<p ^ g/\y<p ^ g/\Mid p m N g s pl (addD p g x y)/\∃ n,wr=w.drewN n
theorem pow_le_of_mid {p m N k s pl rest:Nat} (h:Mid p m N k s pl rest) (hp:1<=p):p ^ k<=p ^ m:=by
 have h2:=h.place
 have h3:p ^ k<=pl*p ^ k:=Nat.le_mul_of_pos_left _ (by
  rcases Nat.eq_zero_or_pos pl with h | h
  . rw [h,Nat.zero_mul] at h2
    have:0<p ^ m:=Nat.pow_pos (by omega)
    omega
  . exact h)
 omega
set_option maxHeartbeats 1000000 in
set_option maxRecDepth 100000 in
theorem add_2 (x y gb m B:Nat) (l lg:List Nat) (w:World) (hs:Small 2 m) (hG:GFAt w B gb 2 m l lg) (hx:x<2 ^ m) (hy:y<2 ^ m) :
 Calls Tryz.prog 143 #[.pointer (some ⟨gb,0,none⟩),.int .i64 x,.int .i64 y] w (Quiet (.int .i64 ((addD 2 m x y:Nat):Int)) w):=by
 have HIX:=Lib.hid (in_c x gb 2 m B l _ w hG hx)
 have HIY:=Lib.hid (in_c y gb 2 m B l _ w hG hy)
 obtain ⟨hp1,hp2,hm1,hm2,hq⟩:=hs
 obtain ⟨_,_,_,_,_,_,_,h0,_,_,_,_,_⟩:=hG.cells
 have HX:=Lib.hid (xor_addD m x y hx hy)
 have hx2:x<=256:=by omega
 have hy2:y<=256:=by omega
 clear hG
 go_enter Tryz.func143,Tryz.ntmps143
 go_wp2_with (first | (go_at_call 158;(with_reducible refine HIX.out.mono ?_);rintro e w' ⟨rfl,rfl⟩) | (go_at_call 158;(with_reducible refine HIY.out.mono ?_);rintro e w' ⟨rfl,rfl⟩))
 go_ret
 exact ⟨qaD (by rw [bits_xor x y hx2 hy2,HX.out]),0,rfl⟩
set_option maxHeartbeats 1000000 in
set_option maxRecDepth 100000 in
theorem add_n (x y gb p m B:Nat) (l lg:List Nat) (w:World) (hs:Small p m) (hpn:p≠2) (hG:GFAt w B gb p m l lg) (hx:x<p ^ m) (hy:y<p ^ m) :
 Calls Tryz.prog 143 #[.pointer (some ⟨gb,0,none⟩),.int .i64 x,.int .i64 y] w (Quiet (.int .i64 ((addD p m x y:Nat):Int)) w):=by
 have HIX:=Lib.hid (in_c x gb p m B l _ w hG hx)
 have HIY:=Lib.hid (in_c y gb p m B l _ w hG hy)
 obtain ⟨hp1,hp2,hm1,hm2,hq⟩:=hs
 obtain ⟨_,_,_,_,_,_,_,h0,_,_,_,_,_⟩:=hG.cells
 have HN:Hid (addD p m x y<p ^ m):=qeO (by omega) m x y
 have HM0:Hid (Mid p m (addD p m x y) m 0 1 (addD p m x y)):=⟨by omega,by omega⟩
 have hpb:((p:Int)==2)=false:=by simp;omega
 have H0:=Lib.hid h0
 clear hG hpn
 go_enter Tryz.func143,Tryz.ntmps143
 go_wp2_with (first | (go_at_call 158;(with_reducible refine HIX.out.mono ?_);rintro e w' ⟨rfl,rfl⟩) | (go_at_call 158;(with_reducible refine HIY.out.mono ?_);rintro e w' ⟨rfl,rfl⟩))
 clear h0 hpb
 go_loopg [1,2,7,8] m (fun g v1 v2 v7 v8 wr=>RelAdd w p m (addD p m x y) g v1 v2 v7 v8 wr)
 case atStart=>exact ⟨x,y,0,1,rfl,rfl,rfl,rfl,hx,hy,HM0.out,0,rfl⟩
 case round =>
  obtain ⟨a,b,s,pl,rfl,rfl,rfl,rfl,ha,hb,hmid,n,rfl⟩:=hrel
  have HMID:=Lib.hid hmid
  have c0:w.cell? ⟨gb,0,none⟩=some (.int .i64 p):=H0.out
  have hpk:=pow_le_of_mid hmid (by omega:1<=p)
  have ha2:a<=256:=by omega
  have hb2:b<=256:=by omega
  clear hmid
  by_cases hz:a=0/\b=0
  . obtain ⟨rfl,rfl⟩ := hz
    have HE:Hid (s=addD p m x y):=by show _=_;have:=HMID.out.sum;rw [addD_zero] at this;omega
    go_wp2_with fail
    go_ret
    exact ⟨qaD (by rw [HE.out]),n,rfl⟩
  . rcases gk with _ | k
    . simp at ha hb;omega
    . have HND : Hid (addD p (k + 1) a b = (a % p + b % p) % p + p * addD p k (a / p) (b / p)) := rfl
      have HMS:=Lib.hid HMID.out
      rw [HND.out] at HMS
      have had:a / p<p ^ k:=by rw [Nat.div_lt_iff_lt_mul (by omega)];rwa [Nat.pow_succ] at ha
      have hbd:b / p<p ^ k:=by rw [Nat.div_lt_iff_lt_mul (by omega)];rwa [Nat.pow_succ] at hb
      obtain ⟨b1,b2,b3,b4,b5⟩:=HMS.out.dpl HN.out hq (by omega)
      have HNX:=Lib.hid HMS.out.step
      have hap:a % p<p:=Nat.mod_lt _ (by omega)
      have hbp:b % p<p:=Nat.mod_lt _ (by omega)
      have T1:Hid (Int.tmod (a:Int) (p:Int)=((a % p:Nat):Int)):=qbF a p
      have T2:Hid (Int.tmod (b:Int) (p:Int)=((b % p:Nat):Int)):=qbF b p
      have T4:Hid (((a / p:Nat):Int)=(a:Int) / (p:Int)):=rfl
      have T5:Hid (((b / p:Nat):Int)=(b:Int) / (p:Int)):=rfl
      clear HMID HMS HND
      generalize a % p=r1 at *
      generalize b % p=r2 at *
      have T3:Hid (Int.tmod ((r1:Int)+(r2:Int)) (p:Int)=(((r1+r2) % p:Nat):Int)):=by
       show _=_
       rw [<- qbF,Int.natCast_add]
      generalize (r1+r2) % p=d at *
      have hp0:¬ (p:Int)=0:=by omega
      have hp00:¬ p=0:=by omega
      have E1:Hid (IntKind.i64.wrap ((r1:Int)+(r2:Int))=(r1:Int)+(r2:Int)):=IntWalk.i64_in _ (by omega)
      have E2:Hid (IntKind.i64.wrap ((d:Int)*(pl:Int))=(d:Int)*(pl:Int)):=IntWalk.i64_in _ (by omega)
      have E3:Hid (IntKind.i64.wrap ((s:Int)+(d:Int)*(pl:Int))=(s:Int)+(d:Int)*(pl:Int)):=IntWalk.i64_in _ (by omega)
      have q0:0<=(a:Int) / (p:Int):=Int.ediv_nonneg (by omega) (by omega)
      have q1:(a:Int) / (p:Int)<=(a:Int):=Int.ediv_le_self _ (by omega)
      have q2:0<=(b:Int) / (p:Int):=Int.ediv_nonneg (by omega) (by omega)
      have q3:(b:Int) / (p:Int)<=(b:Int):=Int.ediv_le_self _ (by omega)
      by_cases ha0:0<a
      . go_upto_region 6 with fail
        have t1:=T1.out
        have t2:=T2.out
        have t3:=T3.out
        have e1:=E1.out
        have e2:=E2.out
        have e3:=E3.out
        go_quiet (fail)
        clear t1 t2 t3 e1 e2 e3
        go_wp2_with fail
        go_roundg k
        case measure=>omega
        case rel=>exact ⟨a / p,b / p,s+d*pl,pl*p,by rw [T4.out],by rw [T5.out],by rw [Int.natCast_add,Int.natCast_mul],by rw [Int.natCast_mul],had,hbd,HNX.out,n+nq,rfl⟩
      . have hb0 : 0 < b := by omega
        go_upto_region 6 with fail
        have t1:=T1.out
        have t2:=T2.out
        have t3:=T3.out
        have e1:=E1.out
        have e2:=E2.out
        have e3:=E3.out
        go_quiet (fail)
        clear t1 t2 t3 e1 e2 e3
        go_wp2_with fail
        go_roundg k
        case measure=>omega
        case rel=>exact ⟨a / p,b / p,s+d*pl,pl*p,by rw [T4.out],by rw [T5.out],by rw [Int.natCast_add,Int.natCast_mul],by rw [Int.natCast_mul],had,hbd,HNX.out,n+nq,rfl⟩
theorem add_c (x y gb p m B:Nat) (l lg:List Nat) (w:World) (hs:Small p m) (hG:GFAt w B gb p m l lg) (hx:x<p ^ m) (hy:y<p ^ m) :
 Calls Tryz.prog 143 #[.pointer (some ⟨gb,0,none⟩),.int .i64 x,.int .i64 y] w (Quiet (.int .i64 ((addD p m x y:Nat):Int)) w):=by
 by_cases h:p=2
 . subst h
   exact add_2 x y gb m B l lg w hs hG hx hy
 . exact add_n x y gb p m B l lg w hs h hG hx hy
end Go.Proofs.YtlmglaonldlanaaGreat
