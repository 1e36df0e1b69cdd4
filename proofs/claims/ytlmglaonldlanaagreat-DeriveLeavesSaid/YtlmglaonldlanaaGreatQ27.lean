/-
 The reference's Few at any bound. The reference: Weight, In at any integer, Exp. The reference: Premises at the rule of divisible codes; Size. The reference: Count. The reference: Combine.
-/
import Derived.Test.YtlmglaonldlanaaGreatQ26
import Derived.Test.YtlmglaonldlanaaGreatQ16
import Derived.Test.YtlmglaonldlanaaGreatQ18
import Derived.Test.YtlmglaonldlanaaGreatQ15
import Derived.Test.YtlmglaonldlanaaGreatQ01
namespace Go.Proofs.YtlmglaonldlanaaGreat
open Go.RowKit Pln
def BX (w:World) (cs:List Value) (t:TypeId) (W:World):Prop:=W.heap[w.heap.size]?=some (.cells cs.toArray t (0,0))/\Below w.heap.size w W/\w.heap.size<W.heap.size
section
variable {w:World} {cs:List Value} {t:TypeId} {W W':World}
theorem BX.grow (h:BX w cs t W) (hb:Below W.heap.size W W'):BX w cs t W':=by
 obtain ⟨h1,h3,h4⟩:=h
 exact ⟨(hb.block _ (by omega)).trans h1,h3.trans (hb.mono (by omega)),Nat.lt_of_lt_of_le h4 hb.size⟩
theorem BX.below (h:BX w cs t W):Below w.heap.size w W:=h.2.1
theorem BX.cell (h:BX w cs t W) {k:Nat} {v:Value} (hv:cs[k]?=some v):W.cell? ⟨w.heap.size,k,none⟩=some v:=by
 rw [cell_of_row W w.heap.size k _ _ _ h.1]
 simpa using hv
theorem BX.range (h:BX w cs t W):W.rangeAt w.heap.size 0 cs:=qaC h.1
end
theorem qcY (w:World) (cs:List Value) (t:TypeId):BX w cs t (w.alloc (.cells cs.toArray t)):=⟨heap_alloc_new _ _,(Below.refl _ _).alloc (Nat.le_refl _) _,by simp⟩
def RelFewN (w:World) (cs:List Value) (t:TypeId) (n:Nat) (N:Int) (v5 v6:Value) (wr:World):Prop:=∃ (k:Nat) (l:Int),k<=n/\0<=l/\l<=N/\v5=.int .i64 l/\v6=.int .i64 k/\BX w cs t wr
set_option maxHeartbeats 1000000 in
set_option maxRecDepth 100000 in
theorem rfewN_c (N:Int) (zs:List (List Int)) (A:Option Addr) (c:Nat) (w:World) (hA:RowsAt w w.heap.size A zs) (h0:0<=N) (h1:N<=1000000) :
 Calls Tryz.prog 43 #[.agg #[.int .i64 0,.slice A zs.length c],.int .i64 N] w fun e w'=>∃ b,e=.returned (.bool b)/\Below w.heap.size w w':=by
 have HX:=Lib.hid (qcY w [.int .i64 0,.slice A zs.length c] 54)
 have HA:=Lib.hid hA
 clear hA
 go_enter Tryz.func43,Tryz.ntmps43
 go_upto_region 1 with fail
 generalize w.alloc (.cells #[.int .i64 0,.slice A zs.length c] 54)=W0 at *
 have a0:W0.cell? ⟨w.heap.size,0,none⟩=some (.int .i64 0):=HX.out.cell rfl
 have a1:W0.cell? ⟨w.heap.size,1,none⟩=some (.slice A zs.length c):=HX.out.cell rfl
 by_cases k9:N<(zs.length:Int)
 . go_wp2_with fail
   go_ret
   exact ⟨_,rfl,HX.out.below⟩
 have hw:IntKind.i64.wrap (N-(zs.length:Int))=N-(zs.length:Int):=IntWalk.i64_in _ (by omega)
 go_wp2_with fail
 go_loopw [5,6] (fun v5 v6 wr=>RelFewN w [.int .i64 0,.slice A zs.length c] 54 zs.length N v5 v6 wr) (fun _ v6 _=>zs.length-(intOf v6).toNat)
 case atStart=>exact ⟨0,N-(zs.length:Int),by omega,by omega,by omega,by go_num,rfl,HX.out⟩
 case round =>
  clear a0 a1 HX hw
  obtain ⟨k,l,hk,l0,l1,rfl,rfl,hx⟩:=hrel
  have HX:=Lib.hid hx
  clear hx
  have a1:wr.cell? ⟨w.heap.size,1,none⟩=some (.slice A zs.length c):=HX.out.cell rfl
  by_cases hlt:k<zs.length
  . obtain ⟨b,o,Ai,ci,rfl,hb,hc,hi⟩ := (HA.out.keep HX.out.below).at_ hlt
    clear hi
    have hn0:(0:Int)<=((zs.getD k []).length:Int):=by omega
    generalize (zs.getD k []).length=n at *
    have k0:(0:Int)<=(k:Int):=by omega
    have k1:(k:Int)<(zs.length:Int):=by omega
    by_cases hn:l<(n:Int)
    . go_wp2_with fail
      go_ret
      exact ⟨_,rfl,HX.out.below⟩
    . have hw1 : IntKind.i64.wrap (l - (n : Int)) = l - (n : Int) := IntWalk.i64_in _ (by omega)
      have hw2:IntKind.i64.wrap ((k:Int)+1)=(k:Int)+1:=IntWalk.i64_in _ (by omega)
      go_wp2_with fail
      go_roundw
      case rel=>exact ⟨k+1,l-n,by omega,by omega,by omega,by go_num,by go_num,HX.out⟩
      case measure=>simp [intOf];omega
  . obtain rfl : k = zs.length := by omega
    go_wp2_with fail
    go_ret
    exact ⟨_,rfl,HX.out.below⟩
set_option maxHeartbeats 1000000 in
set_option maxRecDepth 100000 in
theorem fewN_c (N:Int) (v0 v1 v2 v3:Value) (zs:List (List Int)) (A:Option Addr) (c:Nat) (w:World) (hA:RowsAt w w.heap.size A zs) (h0:0<=N) (h1:N<=1000000) :
 Calls Tryz.prog 24 #[.agg #[v0,v1,v2,v3,.slice A zs.length c],.int .i64 N] w fun e w'=>∃ b,e=.returned (.bool b)/\Below w.heap.size w w':=by
 have HX:=Lib.hid (qcY w [v0,v1,v2,v3,.slice A zs.length c] 32)
 have HA:=Lib.hid hA
 clear hA
 go_enter Tryz.func24,Tryz.ntmps24
 go_upto_region 1 with fail
 generalize w.alloc (.cells #[v0,v1,v2,v3,.slice A zs.length c] 32)=W0 at *
 have a1:W0.cell? ⟨w.heap.size,4,none⟩=some (.slice A zs.length c):=HX.out.cell rfl
 have HC:=Lib.hid (rfewN_c N zs A c W0 ((HA.out.keep HX.out.below).more HX.out.below.size) h0 h1)
 go_wp2_with fail
 (with_reducible refine HC.out.mono ?_)
 rintro e w1 ⟨b,rfl,hb1⟩
 have HX1:=Lib.hid (HX.out.grow hb1)
 clear hb1
 go_wp2_with fail
 go_ret
 exact ⟨_,rfl,HX1.out.below⟩
set_option maxHeartbeats 1000000 in
set_option maxRecDepth 100000 in
theorem xfew_c (zs:List (List Int)) (A:Option Addr) (c:Nat) (w:World) (hA:RowsAt w w.heap.size A zs) :
 Calls Tryz.prog 25 #[.agg #[.slice A zs.length c]] w fun e w'=>∃ b,e=.returned (.bool b)/\Below w.heap.size w w':=by
 have HX:=Lib.hid (qcY w [.slice A zs.length c] 38)
 have HA:=Lib.hid hA
 clear hA
 go_enter Tryz.func25,Tryz.ntmps25
 go_upto_region 1 with fail
 generalize w.alloc (.cells #[.slice A zs.length c] 38)=W0 at *
 have a1:W0.cell? ⟨w.heap.size,0,none⟩=some (.slice A zs.length c):=HX.out.cell rfl
 have HC:=Lib.hid (rfewN_c 20000 zs A c W0 ((HA.out.keep HX.out.below).more HX.out.below.size) (by decide) (by decide))
 go_wp2_with fail
 (with_reducible refine HC.out.mono ?_)
 rintro e w1 ⟨b,rfl,hb1⟩
 have HX1:=Lib.hid (HX.out.grow hb1)
 clear hb1
 go_wp2_with fail
 go_ret
 exact ⟨_,rfl,HX1.out.below⟩
end Go.Proofs.YtlmglaonldlanaaGreat
namespace Go.Proofs.YtlmglaonldlanaaGreat
open Go.RowKit Pln
theorem rwt_append:∀ u v:List Nat,Dv.wt (u++v)=Dv.wt u+Dv.wt v
 | [],v=>by simp [Dv.wt]
 | x :: r,v => by
   show (if x=0 then 0 else 1)+Dv.wt (r++v)=(if x=0 then 0 else 1)+Dv.wt r+Dv.wt v
   rw [rwt_append r v,Nat.add_assoc]
theorem rwt_take {v:List Nat} {j:Nat} (hj:j<v.length):Dv.wt (v.take (j+1))=Dv.wt (v.take j)+if v.getD j 0=0 then 0 else 1:=by
 rw [List.take_add_one,List.getElem?_eq_getElem hj,rwt_append]
 have e:v.getD j 0=v[j]:=by simp [List.getD,hj]
 rw [e]
 simp [Dv.wt]
theorem rwt_le:∀ v:List Nat,Dv.wt v<=v.length
 | []=>by simp [Dv.wt]
 | x :: r => by
   have:=rwt_le r
   unfold Dv.wt
   rw [List.length_cons]
   split <;> omega
def RelWg (v:List Nat) (w:World) (v3 v4:Value) (wr:World):Prop:=∃ k:Nat,k<=v.length/\v4=.int .i64 k/\v3=.int .i64 ((Dv.wt (v.take k):Nat):Int)/\wr=w
def RelEx (q k:Nat) (w:World) (v8 v9:Value) (wr:World):Prop:=∃ i:Nat,i<=k/\v9=.int .i64 i/\v8=.int .i64 ((q ^ i:Nat):Int)/\q ^ i<=65536/\wr=w
set_option maxHeartbeats 1000000 in
set_option maxRecDepth 100000 in
theorem weight_c (v:List Nat) (A:Option Addr) (c:Nat) (w:World) (hA:IntsAt w w.heap.size A (nz v)) (hl:v.length<=1000) :
 Calls Tryz.prog 11 #[.slice A v.length c] w fun e w'=>e=.returned (.int .i64 ((Dv.wt v:Nat):Int))/\w=w':=by
 have HA:=Lib.hid hA
 clear hA
 go_enter Tryz.func11,Tryz.ntmps11
 go_wp2_with fail
 go_loopw [3,4] (fun v3 v4 wr=>RelWg v w v3 v4 wr) (fun _ v4 _=>v.length-(intOf v4).toNat)
 case atStart=>exact ⟨0,by omega,rfl,rfl,rfl⟩
 case round =>
  obtain ⟨k,hk,rfl,rfl,rfl⟩:=hrel
  have hwl:Dv.wt (v.take k)<=1000:=Nat.le_trans (rwt_le _) (by rw [List.length_take];omega)
  by_cases hlt:k<v.length
  . obtain ⟨b,o,rfl,hb,hc⟩ := HA.out.at_ (k := k) (by rw [qaB];exact hlt)
    rw [qaF] at hc
    have HWT:=Lib.hid (rwt_take hlt)
    have k0:(0:Int)<=(k:Int):=by omega
    have k1:(k:Int)<(v.length:Int):=by omega
    have hw1:IntKind.i64.wrap ((k:Int)+1)=(k:Int)+1:=IntWalk.i64_in _ (by omega)
    have hw2:IntKind.i64.wrap (((Dv.wt (v.take k):Nat):Int)+1)=((Dv.wt (v.take k):Nat):Int)+1:=IntWalk.i64_in _ (by omega)
    by_cases hx:v.getD k 0=0
    . rw [if_pos hx] at HWT
      rw [hx] at hc
      clear hx
      go_wp2_with fail
      go_roundw
      case rel=>exact ⟨k+1,by omega,by go_num,by rw [HWT.out];rfl,rfl⟩
      case measure=>simp [intOf];omega
    . rw [if_neg hx] at HWT
      have hx1:(((v.getD k 0:Nat):Int) != 0)=true:=by simpa using hx
      generalize v.getD k 0=x at *
      go_wp2_with fail
      go_roundw
      case rel=>exact ⟨k+1,by omega,by go_num,by rw [HWT.out];go_num,rfl⟩
      case measure=>simp [intOf];omega
  . obtain rfl : k = v.length := by omega
    rw [List.take_length]
    go_wp2_with fail
    go_ret
    exact ⟨rfl,rfl⟩
def inV (p m x:Int):Int:=if inB (orderM p m) x=true then x else 0
set_option maxHeartbeats 1000000 in
set_option maxRecDepth 100000 in
theorem rinG_c (p m:Int) (A:Option Addr) (n c:Nat) (x:Int) (w:World):Calls Tryz.prog 22 #[.agg #[.int .i64 p,.int .i64 m,.slice A n c],.int .i64 x] w fun e w'=>e=.returned (.int .i64 (inV p m x))/\Below w.heap.size w w':=by
 have HX:=Lib.hid (qcY w [.int .i64 p,.int .i64 m,.slice A n c] 29)
 go_enter Tryz.func22,Tryz.ntmps22
 go_upto_region 1 with fail
 generalize w.alloc (.cells #[.int .i64 p,.int .i64 m,.slice A n c] 29)=W0 at *
 have HRG:=Lib.hid HX.out.range
 have HC:=Lib.hid (ris_c p m A n c x W0)
 cases hbb:inB (orderM p m) x
 all_goals rw [hbb] at HC
 . have HV : Hid (inV p m x = 0) := by show _ = _;unfold inV;rw [hbb];rfl
   clear hbb
   go_wp2_with (refine wpList_load_mid rfl 29 (.tmp 2) rfl w.heap.size 0 rfl [.int .i64 p,.int .i64 m,.slice A n c] _ HRG.out Tryz.underlying29 rfl fieldSize ?_)
   refine HC.out.mono ?_
   rintro e w1 ⟨rfl,hb1⟩
   have HX1:=Lib.hid (HX.out.grow hb1)
   clear hb1 HC HX HRG
   go_wp2_with fail
   go_ret
   exact ⟨qaD (by rw [HV.out]),HX1.out.below⟩
 . have HV : Hid (inV p m x = x) := by show _ = _;unfold inV;rw [hbb];rfl
   clear hbb
   go_wp2_with (refine wpList_load_mid rfl 29 (.tmp 2) rfl w.heap.size 0 rfl [.int .i64 p,.int .i64 m,.slice A n c] _ HRG.out Tryz.underlying29 rfl fieldSize ?_)
   refine HC.out.mono ?_
   rintro e w1 ⟨rfl,hb1⟩
   have HX1:=Lib.hid (HX.out.grow hb1)
   clear hb1 HC HX HRG
   go_wp2_with fail
   go_ret
   exact ⟨qaD (by rw [HV.out]),HX1.out.below⟩
def expV (q k:Nat):Int:=if q ^ k<=65536 then ((q ^ k:Nat):Int) else 0
def expE (q k:Nat):Int:=if q ^ k<=65536 then 0 else 8
theorem tdiv_natE (a b:Nat):Int.tdiv (a:Int) (b:Int)=((a / b:Nat):Int):=rfl
set_option maxHeartbeats 1000000 in
set_option maxRecDepth 100000 in
theorem exp_c (q k:Nat) (hq:2<=q) (hq2:q<=256) (hk:k<=1000) (w:World) :
 Calls Tryz.prog 89 #[.int .i64 q,.int .i64 k,.int .i64 65536] w fun e w'=>e=.returned (.tuple #[.int .i64 (expV q k),.int .i64 (expE q k)])/\w=w':=by
 have g0:¬ (q:Int)<0:=by omega
 have g1:¬ (k:Int)<0:=by omega
 have g2:((q:Int)==0)=false:=beq_false_of_ne (by omega)
 have g3:(1:Int)<(q:Int):=by omega
 have hq0:¬ (q:Int)=0:=by omega
 have hq1:¬ q=0:=by omega
 have hdv:Int.tdiv 65536 (q:Int)=((65536 / q:Nat):Int):=tdiv_natE 65536 q
 have hd1:65536 / q<=65536:=Nat.div_le_self _ _
 have hdm:∀ a:Nat,a<=65536 / q ↔ a*q<=65536:=fun a=>Nat.le_div_iff_mul_le (by omega)
 generalize 65536 / q=dq at *
 have hwd:IntKind.i64.wrap (dq:Int)=(dq:Int):=IntWalk.i64_in _ (by omega)
 have HDM:=Lib.hid hdm
 clear hdm
 go_enter Tryz.func89,Tryz.ntmps89
 go_wp2_with fail
 go_loopw [8,9] (fun v8 v9 wr=>RelEx q k w v8 v9 wr) (fun _ v9 _=>k-(intOf v9).toNat)
 case atStart=>exact ⟨0,by omega,rfl,by simp,by simp,rfl⟩
 case round =>
  obtain ⟨i,hi,rfl,rfl,hle,rfl⟩:=hrel
  by_cases hlt:i<k
  . have k0 : (i : Int) < (k : Int) := by omega
    have hw1:IntKind.i64.wrap ((i:Int)+1)=(i:Int)+1:=IntWalk.i64_in _ (by omega)
    have hs:=HDM.out (q ^ i)
    rw [<- Nat.pow_succ] at hs
    by_cases hb:q ^ i<=dq
    . have hb1 : ¬ (dq : Int) < ((q ^ i : Nat) : Int) := by omega
      have hn:=hs.1 hb
      have hw2:IntKind.i64.wrap (((q ^ i:Nat):Int)*(q:Int))=((q ^ (i+1):Nat):Int):=by
       rw [<- Int.natCast_mul,<- Nat.pow_succ]
       exact IntWalk.i64_in _ (by omega)
      have HN:=Lib.hid hn
      clear hs hn
      generalize q ^ i=z at *
      go_wp2_with fail
      go_roundw
      case rel=>exact ⟨i+1,by omega,by go_num,by simp,HN.out,rfl⟩
      case measure=>simp [intOf];omega
    . have hb1 : (dq : Int) < ((q ^ i : Nat) : Int) := by omega
      have hbig:65536<q ^ k:=by
       have h1:65536<q ^ (i+1):=by
        rcases Nat.lt_or_ge 65536 (q ^ (i+1)) with h | h
        . exact h
        . exact absurd (hs.2 h) hb
       exact Nat.lt_of_lt_of_le h1 (Nat.pow_le_pow_right (by omega) hlt)
      have HV:Hid (expV q k=0):=if_neg (by omega)
      have HE:Hid (expE q k=8):=if_neg (by omega)
      clear hs hbig
      generalize q ^ i=z at *
      go_wp2_with fail
      go_ret2
      rw [HV.out,HE.out]
      exact ⟨rfl,rfl⟩
  . obtain rfl : i = k := by omega
    have HV:Hid (expV q i=((q ^ i:Nat):Int)):=if_pos hle
    have HE:Hid (expE q i=0):=if_pos hle
    have hb1:¬ (65536:Int)<((q ^ i:Nat):Int):=by omega
    clear HDM
    generalize q ^ i=z at *
    go_wp2_with fail
    go_ret2
    rw [HV.out,HE.out]
    exact ⟨rfl,rfl⟩
end Go.Proofs.YtlmglaonldlanaaGreat
namespace Go.Proofs.YtlmglaonldlanaaGreat
open Go.RowKit Pln
def szV (p m:Int) (mod:List Int) (N:Int) (zs:List (List Int)):Int:=if codeZ p m mod N zs≠0 then 0 else expV (p.toNat ^ m.toNat) zs.length
def szE (p m:Int) (mod:List Int) (N:Int) (zs:List (List Int)):Int:=if codeZ p m mod N zs≠0 then codeZ p m mod N zs else expE (p.toNat ^ m.toNat) zs.length
set_option maxHeartbeats 1000000 in
set_option maxRecDepth 100000 in
theorem size_c2 (p m:Int) (mod:List Int) (Am:Option Addr) (cm:Nat) (N:Int) (zs:List (List Int)) (A:Option Addr) (c:Nat) (w:World) (hM:IntsAt w w.heap.size Am mod) (hl:mod.length<=9223372036854775807)
 (hA:RowsAt w w.heap.size A zs) (hlz:zs.length<=1000) :
 Calls Tryz.prog 39 #[.agg #[.int .i64 p,.int .i64 m,.slice Am mod.length cm,.int .i64 N,.slice A zs.length c]] w fun e w'=>e=.returned (.tuple #[.int .i64 (szV p m mod N zs),.int .i64 (szE p m mod N zs)])/\Below w.heap.size w w':=by
 have HX:=Lib.hid (qcY w [.int .i64 p,.int .i64 m,.slice Am mod.length cm,.int .i64 N,.slice A zs.length c] 32)
 have HM:=Lib.hid hM
 have HA:=Lib.hid hA
 clear hM hA
 go_enter Tryz.func39,Tryz.ntmps39
 go_upto_region 1 with fail
 generalize w.alloc (.cells #[.int .i64 p,.int .i64 m,.slice Am mod.length cm,.int .i64 N,.slice A zs.length c] 32)=W0 at *
 have HRG:=Lib.hid HX.out.range
 have HC:=Lib.hid (qdO p m mod Am cm N zs A c W0 ((HM.out.keep HX.out.below).more HX.out.below.size) hl ((HA.out.keep HX.out.below).more HX.out.below.size) (by omega))
 clear HM HA
 go_wp2_with (refine wpList_load_mid rfl 32 (.tmp 1) rfl w.heap.size 0 rfl [.int .i64 p,.int .i64 m,.slice Am mod.length cm,.int .i64 N,.slice A zs.length c] _ HRG.out Tryz.underlying32 rfl codeSize ?_)
 refine HC.out.mono ?_
 rintro e w1 ⟨rfl,hb1⟩
 have HX1:=Lib.hid (HX.out.grow hb1)
 clear hb1 HC HX HRG
 by_cases hz:codeZ p m mod N zs=0
 . have HV : Hid (szV p m mod N zs = expV (p.toNat ^ m.toNat) zs.length) := if_neg (fun h => h hz)
   have HE:Hid (szE p m mod N zs=expE (p.toNat ^ m.toNat) zs.length):=if_neg (fun h=>h hz)
   have hft:=qaW (codeZ_n hz).1
   have hp0:((p.toNat:Nat):Int)=p/\((m.toNat:Nat):Int)=m:=by
    have h1:=hft.small.p1
    have h2:=hft.small.m1
    omega
   have hq2:2<=p.toNat ^ m.toNat:=Nat.le_trans hft.small.p1 (Nat.le_self_pow (by have:=hft.small.m1;omega) _)
   have hq3:=hft.small.q
   have ho:orderM p m=((p.toNat ^ m.toNat:Nat):Int):=by
    have h:=qdD hft.small.p1 hft.small.p2 hft.small.m1 hft.small.m2
    rw [hp0.1,hp0.2] at h
    rw [h,if_neg (by omega)]
   have HO:Hid (∀ W,Calls Tryz.prog 33 #[.agg #[.int .i64 p,.int .i64 m,.slice Am mod.length cm]] W fun e w'=>e=.returned (.int .i64 ((p.toNat ^ m.toNat:Nat):Int))/\Below W.heap.size W w'):=fun W=>by
    rw [<- ho]
    exact rorder_c p m Am mod.length cm W
   have HEX:Hid (∀ W,Calls Tryz.prog 89 #[.int .i64 ((p.toNat ^ m.toNat:Nat):Int),.int .i64 zs.length,.int .i64 65536] W fun e w'=>e=.returned (.tuple #[.int .i64 (expV (p.toNat ^ m.toNat) zs.length),.int .i64 (expE (p.toNat ^ m.toNat) zs.length)])/\W=w'):=fun W=>exp_c _ _ hq2 hq3 hlz W
   rw [hz]
   clear hz hft hp0 hq2 hq3 ho
   generalize p.toNat ^ m.toNat=q at *
   generalize expV q zs.length=ev at *
   generalize expE q zs.length=ee at *
   go_upto_region 4 with fail
   refine qaH (BX w [.int .i64 p,.int .i64 m,.slice Am mod.length cm,.int .i64 N,.slice A zs.length c] 32) (by kernel_rfl) (by kernel_rfl) (HX1.out.grow (Below.refl _ _).drew) ?_
   repeat (first
    | (refine qbG rfl 29 (.tmp 10) rfl w.heap.size 0 rfl [.int .i64 p,.int .i64 m,.slice Am mod.length cm] _ (fun W hS => fun j u hu => by
        match j,hu with
        | 0,hu=>exact hS.range 0 u hu
        | 1,hu=>exact hS.range 1 u hu
        | 2,hu=>exact hS.range 2 u hu
        | j+3,hu=>simp at hu) Tryz.underlying29 rfl fieldSize ?_
       go_simp)
    | (apply qaM rfl
       . intro W hS
         have y2:W.cell? ⟨w.heap.size,4,none⟩=some (.slice A zs.length c):=hS.cell rfl
         go_simp
         try rfl
       go_simp)
    | (apply qaV rfl
       . intro W hS
         go_simp
         exact ⟨rfl,rfl⟩
       . intro W hS
         first
          | exact (HO.out W).mono (by rintro e w' ⟨rfl,hb⟩;exact ⟨rfl,hS.grow hb⟩)
          | exact (HEX.out W).mono (by rintro e w' ⟨rfl,rfl⟩;exact ⟨rfl,hS⟩)
       go_simp))
   refine qaJ ?_
   intro w2 hS2
   have HX2:=Lib.hid hS2
   clear hS2 HX1 HO HEX
   go_wp2_with fail
   go_ret2
   rw [HV.out,HE.out]
   exact ⟨rfl,HX2.out.below⟩
 . have HV : Hid (szV p m mod N zs = 0) := if_pos hz
   have HE:Hid (szE p m mod N zs=codeZ p m mod N zs):=if_pos hz
   have hz1:(codeZ p m mod N zs != 0)=true:=bne_iff_ne.2 hz
   go_wp2_with fail
   go_ret2
   rw [HV.out,HE.out]
   exact ⟨rfl,HX1.out.below⟩
end Go.Proofs.YtlmglaonldlanaaGreat
namespace Go.Proofs.YtlmglaonldlanaaGreat
open Go.RowKit Pln
def cnV (p m:Int) (mod:List Int) (N:Int) (zs:List (List Int)) (most:Int):Int:=if szE p m mod N zs≠0\/most<szV p m mod N zs then 0 else szV p m mod N zs
set_option maxHeartbeats 1000000 in
set_option maxRecDepth 100000 in
theorem count_c (p m:Int) (mod:List Int) (Am:Option Addr) (cm:Nat) (N:Int) (zs:List (List Int)) (A:Option Addr) (c:Nat) (most:Int) (w:World) (hM:IntsAt w w.heap.size Am mod) (hl:mod.length<=9223372036854775807)
 (hA:RowsAt w w.heap.size A zs) (hlz:zs.length<=1000) :
 Calls Tryz.prog 20 #[.agg #[.int .i64 p,.int .i64 m,.slice Am mod.length cm,.int .i64 N,.slice A zs.length c],.int .i64 most] w fun e w'=>e=.returned (.int .i64 (cnV p m mod N zs most))/\Below w.heap.size w w':=by
 have HX:=Lib.hid (qcY w [.int .i64 p,.int .i64 m,.slice Am mod.length cm,.int .i64 N,.slice A zs.length c] 32)
 have HM:=Lib.hid hM
 have HA:=Lib.hid hA
 clear hM hA
 go_enter Tryz.func20,Tryz.ntmps20
 go_upto_region 1 with fail
 generalize w.alloc (.cells #[.int .i64 p,.int .i64 m,.slice Am mod.length cm,.int .i64 N,.slice A zs.length c] 32)=W0 at *
 have HRG:=Lib.hid HX.out.range
 have HC:=Lib.hid (size_c2 p m mod Am cm N zs A c W0 ((HM.out.keep HX.out.below).more HX.out.below.size) hl ((HA.out.keep HX.out.below).more HX.out.below.size) hlz)
 have HV:Hid (cnV p m mod N zs most=if szE p m mod N zs≠0\/most<szV p m mod N zs then 0 else szV p m mod N zs):=rfl
 clear HM HA
 generalize szE p m mod N zs=ee at *
 generalize szV p m mod N zs=ev at *
 go_wp2_with (refine wpList_load_mid rfl 32 (.tmp 2) rfl w.heap.size 0 rfl [.int .i64 p,.int .i64 m,.slice Am mod.length cm,.int .i64 N,.slice A zs.length c] _ HRG.out Tryz.underlying32 rfl codeSize ?_)
 refine HC.out.mono ?_
 rintro e w1 ⟨rfl,hb1⟩
 have HX1:=Lib.hid (HX.out.grow hb1)
 clear hb1 HC HX HRG
 by_cases he:ee=0
 . have he1 : (ee != 0) = false := bne_eq_false_iff_eq.2 he
   by_cases hm:most<ev
   . have HV2 : Hid (cnV p m mod N zs most = 0) := by show _ = _;rw [HV.out,if_pos (.inr hm)]
     clear he HV
     go_wp2_with fail
     go_ret
     exact ⟨qaD (by rw [HV2.out]),HX1.out.below⟩
   . have HV2 : Hid (cnV p m mod N zs most = ev) := by show _ = _;rw [HV.out,if_neg (fun h => h.elim (fun h => h he) hm)]
     clear he HV
     go_wp2_with fail
     go_ret
     exact ⟨qaD (by rw [HV2.out]),HX1.out.below⟩
 . have he1 : (ee != 0) = true := bne_iff_ne.2 he
   have HV2:Hid (cnV p m mod N zs most=0):=by show _=_;rw [HV.out,if_pos (.inl he)]
   clear HV
   go_wp2_with fail
   go_ret
   exact ⟨qaD (by rw [HV2.out]),HX1.out.below⟩
end Go.Proofs.YtlmglaonldlanaaGreat
namespace Go.Proofs.YtlmglaonldlanaaGreat
open Go.RowKit Pln
def LSc (w:World) (p m:Nat) (A:Option Addr) (n c bm om bh oh k x:Nat) (v:Value) (W:World):Prop :=
 BX w [.int .i64 (p:Int),.int .i64 (m:Int),.slice A n c] 29 W/\W.cell? ⟨bm,om+k,none⟩=some (.int .i64 x)/\W.cell? ⟨bh,oh+k,none⟩=some v
theorem LSc.keep {w:World} {p m:Nat} {A:Option Addr} {n c bm om bh oh k x:Nat} {v:Value} {W W':World} (h:LSc w p m A n c bm om bh oh k x v W) (hb:Below W.heap.size W W'):LSc w p m A n c bm om bh oh k x v W' :=
 ⟨h.1.grow hb,(hb.cell (p:=⟨bm,om+k,none⟩) (World.block_lt_of_cell? W _ h.2.1)).trans h.2.1,(hb.cell (p:=⟨bh,oh+k,none⟩) (World.block_lt_of_cell? W _ h.2.2)).trans h.2.2⟩
def RelCb (w:World) (p m:Nat) (A:Option Addr) (n c:Nat) (O:Ops) (q:Nat) (msg:List Nat) (rows:List (List Nat)) (cols:Nat) (v9 v10:Value) (wr:World):Prop :=
 ∃ (k g:Nat) (u:List Nat),k<=rows.length/\v10=.int .i64 k/\v9=.slice (some ⟨g,0,none⟩) cols cols/\BX w [.int .i64 (p:Int),.int .i64 (m:Int),.slice A n c] 29 wr/\Row wr w.heap.size g cols (nz u)/\u.length=cols/\(∀ x∈u,x<q)/\Dv.combO O u (msg.drop k) (rows.drop k)=Dv.combO O (List.replicate cols 0) msg rows
theorem combO_step {O:Ops} {u msg:List Nat} {rows:List (List Nat)} {k:Nat} (h1:k<msg.length) (h2:k<rows.length) {r:List Nat} (h:Dv.combO O u (msg.drop k) (rows.drop k)=r) :
 Dv.combO O (if msg.getD k 0=0 then u else addRow O u (msg.getD k 0) (rows.getD k [])) (msg.drop (k+1)) (rows.drop (k+1))=r:=by
 rw [List.drop_eq_getElem_cons h1,List.drop_eq_getElem_cons h2] at h
 unfold Dv.combO at h
 have e1:msg.getD k 0=msg[k]:=by simp [List.getD,h1]
 have e2:rows.getD k []=rows[k]:=by simp [List.getD,h2]
 rw [e1,e2]
 exact h
theorem row_ints {w:World} {B g c:Nat} {zs:List Int} (h:Row w B g c zs):IntsAt w w.heap.size (some ⟨g,0,none⟩) zs:=fun _=>⟨g,0,rfl,h.lt.2,fun j hj=>by rw [Nat.zero_add];exact h.cell hj⟩
end Go.Proofs.YtlmglaonldlanaaGreat
