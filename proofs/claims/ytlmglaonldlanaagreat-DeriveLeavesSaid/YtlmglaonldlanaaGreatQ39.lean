/-
 bch.modulo, far, divisor; number.Gcd. bch.members, Check. bch.Check.
-/
import Derived.Test.YtlmglaonldlanaaGreatQ38
import Derived.BigQuiet
import Derived.Deep.QuietTactic
namespace Go.Proofs.YtlmglaonldlanaaGreat
open Go.RowKit Pln
theorem tmod_tw (x n:Int):(x.tmod n+n) % n=x % n:=by
 rw [Int.add_emod_right,Int.tmod_def,Int.sub_mul_emod_self_left]
theorem tmod_b (x n:Int) (hn:0<n):-n<x.tmod n/\x.tmod n<n:=by
 have h0:=Int.tmod_lt_of_pos x hn
 refine ⟨?_,h0⟩
 rcases Int.le_total 0 x with h | h
 . have := Int.tmod_nonneg n h
   omega
 . have h2 : (-x).tmod n = -(x.tmod n) := Int.neg_tmod ..
   have h3:=Int.tmod_lt_of_pos (-x) hn
   omega
theorem modulo_c (x n:Int) (w:World) (hn:1<=n) (hn2:n<=1000) (_hx:-4000000000000000000<=x/\x<=4000000000000000000) :
 Calls Tryz.prog 111 #[.int .i64 x,.int .i64 n] w fun e w'=>e=.returned (.int .i64 (x % n))/\w=w':=by
 obtain ⟨h1,h2⟩:=tmod_b x n (by omega)
 have HT:=Lib.hid (tmod_tw x n)
 have i1:IntKind.i64.wrap (x.tmod n)=x.tmod n:=IntWalk.i64_in _ (by omega)
 have i2:IntKind.i64.wrap (x.tmod n+n)=x.tmod n+n:=IntWalk.i64_in _ (by omega)
 have hn0:n≠0:=by omega
 have i3:IntKind.i64.wrap (x % n)=x % n:=IntWalk.i64_in _ (by have:=Int.emod_nonneg x hn0;have:=Int.emod_lt_of_pos x (show 0<n by omega);omega)
 go_enter Tryz.func111,Tryz.ntmps111
 go_wp2_with fail
 go_ret
 exact ⟨qaD (by rw [HT.out]),rfl⟩
theorem far_c (x:Int) (w:World):Calls Tryz.prog 108 #[.int .i64 x] w fun e w'=>e=.returned (.bool (decide (x < -2147483648\/2147483648<x)))/\w=w':=by
 by_cases h1:x < -2147483648
 . go_enter Tryz.func108,Tryz.ntmps108
   go_wp2_with fail
   go_ret
   simp [h1]
 . by_cases h2 : 2147483648 < x
   . go_enter Tryz.func108,Tryz.ntmps108
     go_wp2_with fail
     go_ret
     simp
   . go_enter Tryz.func108,Tryz.ntmps108
     go_wp2_with fail
     go_ret
     simp [h1,h2]
theorem nin_c (n lo:Int) (w:World) (h1:lo<=n) (h2:n<=2147483647):Calls Tryz.prog 237 #[.int .i64 n,.int .i64 lo] w fun e w'=>e=.returned (.bool true)/\w=w':=by
 go_enter Tryz.func237,Tryz.ntmps237
 go_wp2_with fail
 go_ret
 exact ⟨rfl,rfl⟩
theorem both_c (a b:Int) (w:World) (h1:0<=a) (h2:a<=2147483647) (h3:0<=b) (h4:b<=2147483647):Calls Tryz.prog 208 #[.int .i64 a,.int .i64 b] w fun e w'=>e=.returned (.bool true)/\w=w':=by
 have H1:=Lib.hid (nin_c a (-2147483647) w (by omega) h2)
 have H2:=Lib.hid (nin_c b (-2147483647) w (by omega) h4)
 go_enter Tryz.func208,Tryz.ntmps208
 go_wp2_with fail
 with_reducible refine H1.out.mono ?_
 rintro e w' ⟨rfl,rfl⟩
 go_wp2_with fail
 with_reducible refine H2.out.mono ?_
 rintro e w' ⟨rfl,rfl⟩
 go_wp2_with fail
 go_ret
 exact ⟨rfl,rfl⟩
theorem nabs_c (a:Int) (w:World) (h1:0<=a) (h2:a<=2147483647):Calls Tryz.prog 210 #[.int .i64 a] w fun e w'=>e=.returned (.int .i64 a)/\w=w':=by
 have i1:IntKind.i64.wrap (-a)=-a:=IntWalk.i64_in _ (by omega)
 go_enter Tryz.func210,Tryz.ntmps210
 go_wp2_with fail
 go_ret
 exact ⟨rfl,rfl⟩
def RelGc (w:World) (g B:Nat) (v0 v1:Value) (wr:World):Prop :=
 ∃ (a b n:Nat),v0=.int .i64 a/\v1=.int .i64 b/\a<=B/\b<=B/\Nat.gcd a b=g/\wr=w.drewN n
set_option maxHeartbeats 1000000 in
theorem ngcd_c (a b:Nat) (w:World) (h1:a<=2147483647) (h2:b<=2147483647):Calls Tryz.prog 209 #[.int .i64 a,.int .i64 b] w (Quiet (.int .i64 ((Nat.gcd a b:Nat):Int)) w):=by
 have HR0:Hid (RelGc w (Nat.gcd a b) 2147483647 (.int .i64 a) (.int .i64 b) w):=⟨a,b,0,rfl,rfl,h1,h2,rfl,rfl⟩
 generalize Nat.gcd a b=g at *
 go_enter Tryz.func209,Tryz.ntmps209
 go_wp2_with fail
 go_loopw [0,1] (fun v0 v1 wr=>RelGc w g 2147483647 v0 v1 wr) (fun _ v1 _=>(intOf v1).toNat)
 case atStart=>exact HR0.out
 case round =>
  obtain ⟨x,y,n,rfl,rfl,hx,hy,hg,rfl⟩:=hrel
  have HG:=Lib.hid hg
  clear hg HR0
  rcases Nat.eq_zero_or_pos y with rfl | hy0
  . have HE : Hid (x = g) := by have := HG.out;rw [Nat.gcd_zero_right] at this;exact this
    go_wp2_with fail
    go_ret
    exact ⟨qaD (by rw [HE.out]),n,rfl⟩
  . have hyn : (y : Int) ≠ 0 := by omega
    have hyb:((y:Int) != 0)=true:=bne_iff_ne.2 hyn
    have hm:IntKind.i64.wrap (Int.tmod (x:Int) (y:Int))=((x % y:Nat):Int):=by
     rw [qbF]
     have:=Nat.mod_lt x hy0
     exact IntWalk.i64_in _ (by omega)
    have HGG:Hid (Nat.gcd y (x % y)=g/\x % y<y):=⟨by rw [<- HG.out,Nat.gcd_comm x y,Nat.gcd_rec y x,Nat.gcd_comm],Nat.mod_lt x hy0⟩
    have HXY:Hid ((x:Int) % (y:Int)=((x % y:Nat):Int)):=(Int.natCast_emod x y).symm
    generalize x % y=z at *
    go_upto_region 2 with fail
    go_quiet (fail)
    go_wp2_with fail
    go_roundw
    case rel=>exact ⟨y,z,n+nq,rfl,by rw [HXY.out],hy,by have:=HGG.out.2;omega,HGG.out.1,by simp [World.drewN];omega⟩
    case measure=>have:=HGG.out.2;rw [HXY.out];simp [intOf];omega
set_option maxHeartbeats 1000000 in
theorem nGcd_c (a b:Nat) (w:World) (h1:a<=2147483647) (h2:b<=2147483647):Calls Tryz.prog 163 #[.int .i64 a,.int .i64 b] w (Quiet (.tuple #[.int .i64 ((Nat.gcd a b:Nat):Int),.int .i64 0]) w):=by
 have HB:=Lib.hid (both_c a b w (by omega) (by omega) (by omega) (by omega))
 have HA:=Lib.hid (nabs_c a w (by omega) (by omega))
 have HA2:=Lib.hid (nabs_c b w (by omega) (by omega))
 have HGC:=Lib.hid (ngcd_c a b w h1 h2)
 go_enter Tryz.func163,Tryz.ntmps163
 go_wp2_with fail
 with_reducible refine HB.out.mono ?_
 rintro e w' ⟨rfl,rfl⟩
 go_wp2_with fail
 with_reducible refine HA.out.mono ?_
 rintro e w' ⟨rfl,rfl⟩
 go_wp2_with fail
 with_reducible refine HA2.out.mono ?_
 rintro e w' ⟨rfl,rfl⟩
 go_wp2_with fail
 with_reducible refine HGC.out.mono ?_
 rintro e w' ⟨rfl,n,rfl⟩
 go_wp2_with fail
 go_ret2
 exact ⟨rfl,n,rfl⟩
set_option maxHeartbeats 1000000 in
theorem divisor_c (x:Int) (n:Nat) (w:World) (hn:1<=n) (hn2:n<=1000) (hx:-4000000000000000000<=x/\x<=4000000000000000000) :
 Calls Tryz.prog 109 #[.int .i64 x,.int .i64 n] w (Quiet (.int .i64 ((Nat.gcd (x % (n:Int)).toNat n:Nat):Int)) w):=by
 have hz:=Int.emod_nonneg x (show (n:Int)≠0 by omega)
 have hz2:=Int.emod_lt_of_pos x (show 0<(n:Int) by omega)
 have HM:=Lib.hid (modulo_c x n w (by omega) (by omega) hx)
 obtain ⟨z,hze⟩:∃ z:Nat,x % (n:Int)=(z:Int):=⟨(x % (n:Int)).toNat,by omega⟩
 rw [hze] at HM hz hz2 ⊢
 have HG:=Lib.hid (nGcd_c z n w (by omega) (by omega))
 rw [Int.toNat_natCast]
 clear hze
 go_enter Tryz.func109,Tryz.ntmps109
 go_wp2_with fail
 with_reducible refine HM.out.mono ?_
 rintro e w' ⟨rfl,rfl⟩
 go_wp2_with fail
 with_reducible refine HG.out.mono ?_
 rintro e w' ⟨rfl,k,rfl⟩
 go_wp2_with fail
 go_ret
 exact ⟨rfl,k,rfl⟩
end Go.Proofs.YtlmglaonldlanaaGreat
namespace Go.Proofs.YtlmglaonldlanaaGreat
open Go.RowKit Pln
def Mem (zs:List Nat) (n:Nat) (bs:List Bool):Prop:=bs.length=n/\∀ e,bs.getD e false=true->∃ z∈zs,z % n=e
theorem Mem.step {zs:List Nat} {n:Nat} {bs:List Bool} (h:Mem zs n bs) {z:Nat} (hz:z∈zs):Mem zs n (bs.set (z % n) true):=by
 refine ⟨by rw [List.length_set];exact h.1,fun e he=>?_⟩
 by_cases hze:z % n=e
 . exact ⟨z,hz,hze⟩
 . refine h.2 e ?_
   simp only [List.getD] at he ⊢
   rwa [List.getElem?_set_ne hze] at he
def RelMe (w:World) (zs:List Nat) (n:Nat) (v12:Value) (wr:World):Prop :=
 ∃ (k:Nat) (bs:List Bool),k<=zs.length/\v12=.int .i64 k/\Mem zs n bs/\BRow wr w.heap.size w.heap.size n bs/\Below w.heap.size w wr
set_option maxHeartbeats 1000000 in
set_option maxRecDepth 100000 in
theorem members_c (n:Nat) (zs:List Nat) (A:Option Addr) (c:Nat) (w:World) (hn:1<=n) (hn2:n<=1000) (hz:∀ z∈zs,z<=1000000) (hl:zs.length<=1000000) (hA:IntsAt w w.heap.size A (nz zs)) :
 Calls Tryz.prog 110 #[.int .i64 n,.slice A zs.length c] w fun e w'=>(∃ bs,e=.returned (.slice (some ⟨w.heap.size,0,none⟩) n n)/\Mem zs n bs/\BRow w' w.heap.size w.heap.size n bs)/\Below w.heap.size w w':=by
 obtain ⟨i1,ki,kz0,kz1,kz2⟩:=qaG infoBool
 have KI:=Lib.hid ki
 have KZ0:=Lib.hid kz0
 have KZ1:=Lib.hid kz1
 have KB2:=Lib.hid (show i1.bytes*n<=281474976710656 by rw [kz2];omega)
 have KB3:=Lib.hid (show n<=maxLen by unfold maxLen;omega)
 have HA:=Lib.hid hA
 have HZ:=Lib.hid hz
 clear ki kz0 kz1 kz2 hA hz
 go_enter Tryz.func110,Tryz.ntmps110
 go_wp2_with (refine wpList_make_full _ rfl (.tmp 8) (.tmp 8) 133 rfl w.heap.size 4 i1 (.bool false) 1 Tryz.underlying133 KI.out KZ0.out KZ1.out .i64 .i64 n n n rfl rfl rfl rfl KB2.out KB3.out (Nat.le_refl _) ?_;intro w1 hown hgr)
 have HS:Hid (RelMe w zs n (.int .i64 ((0:Nat):Int)) w1):=⟨0,List.replicate n false,by omega,rfl,⟨by simp,fun e he=>by
  simp only [List.getD,List.getElem?_replicate] at he
  split at he <;> simp at he⟩,BRow.of_make hown,qaL hgr⟩
 clear hown hgr
 go_loopw [12] (fun v12 wr=>RelMe w zs n v12 wr) (fun v12 _=>zs.length-(intOf v12).toNat)
 case atStart=>exact HS.out
 case round =>
  obtain ⟨k,bs,hk,rfl,hm,hrow,hb⟩:=hrel
  have HM:=Lib.hid hm
  have HR:=Lib.hid hrow
  have HB:=Lib.hid hb
  clear hm hrow hb HS
  by_cases hlt:k<zs.length
  . obtain ⟨b,o,rfl,hbl,hc⟩ := (HA.out.keep HB.out).at_ (k := k) (by rw [qaB];exact hlt)
    rw [qaF] at hc
    have hmem:zs.getD k 0∈zs:=by
     have:zs.getD k 0=zs[k]:=by simp [List.getD,hlt]
     rw [this]
     exact List.getElem_mem hlt
    have hzb:=HZ.out _ hmem
    have HMS:=Lib.hid (HM.out.step hmem)
    generalize zs.getD k 0=z at *
    have HMO:=Lib.hid (modulo_c z n wr (by omega) (by omega) (by omega))
    have hme:((z:Int) % (n:Int))=((z % n:Nat):Int):=(Int.natCast_emod z n).symm
    rw [hme] at HMO
    have hzn:z % n<n:=Nat.mod_lt z (by omega)
    clear hme hmem
    have HRL:=Lib.hid HM.out.1
    generalize z % n=e0 at *
    have f0:=HR.out.frozen e0
    have c0:=HR.out.cell (j:=e0) (by rw [HRL.out];exact hzn)
    go_wp2_with fail
    with_reducible refine HMO.out.mono ?_
    rintro e w' ⟨rfl,rfl⟩
    go_wp2_with fail
    go_roundw
    case rel=>exact ⟨k+1,_,by omega,by go_num,HMS.out,HR.out.set e0 true,HB.out.setCell (p:=⟨w.heap.size,e0,none⟩) (Nat.le_refl _) _⟩
    case measure=>simp [intOf];omega
  . obtain rfl : k = zs.length := by omega
    go_wp2_with fail
    go_ret
    exact ⟨⟨bs,rfl,HM.out,HR.out⟩,HB.out⟩
end Go.Proofs.YtlmglaonldlanaaGreat
namespace Go.Proofs.YtlmglaonldlanaaGreat
open Go.RowKit Pln
theorem mul_b (i:Nat) (t:Int) (hi:i<=1000) (h1:-2147483648<=t) (h2:t<=2147483648):-2147483648000<=(i:Int)*t/\(i:Int)*t<=2147483648000:=by
 have a:=Int.mul_le_mul_of_nonneg_left h2 (show (0:Int)<=(i:Int) by omega)
 have b:=Int.mul_le_mul_of_nonneg_left h1 (show (0:Int)<=(i:Int) by omega)
 omega
def Hit (zs:List Nat) (n:Nat) (s t cr:Int) (i j:Nat):Prop:=∃ z∈zs,((z % n:Nat):Int)=(s+(i:Int)*t+(j:Int)*cr) % (n:Int)
def ChkOk (n:Nat) (zs:List Nat) (s t ct cr mo b:Int):Prop :=
 ∃ c m:Nat,ct=(c:Int)/\mo=(m:Int)/\1<=c/\c<=n/\m<=n/\Nat.gcd (t % (n:Int)).toNat n=1/\(m=0\/Nat.gcd (cr % (n:Int)).toNat n<=c)/\b=ct+1+mo/\∀ i j:Nat,i<c->j<m+1->Hit zs n s t cr i j
def RunPost (w:World) (n:Nat) (zs:List Nat) (s t ct cr mo:Int) (e:Ending) (w':World):Prop :=
 (∃ b z:Int,e=.returned (.tuple #[.int .i64 b,.int .i64 z])/\(z=0->ChkOk n zs s t ct cr mo b))/\Below w.heap.size w w'
def RelR1 (W:World) (zs:List Nat) (n:Nat) (s t cr:Int) (c m:Nat) (v79:Value) (wr:World):Prop :=
 ∃ i:Nat,i<=c/\v79=.int .i64 i/\wr=W/\∀ i' j:Nat,i'<i->j<m+1->Hit zs n s t cr i' j
def RelR2 (W:World) (zs:List Nat) (n:Nat) (s t cr:Int) (i m:Nat) (v85:Value) (wr:World):Prop :=
 ∃ j:Nat,j<=m+1/\v85=.int .i64 j/\wr=W/\∀ j':Nat,j'<j->Hit zs n s t cr i j'
set_option maxHeartbeats 4000000 in
set_option maxRecDepth 100000 in
theorem runcheck_c (n:Nat) (zs:List Nat) (A:Option Addr) (c:Nat) (s t ct cr mo:Int) (w:World) (hn:1<=n) (hn2:n<=64) (hz:∀ z∈zs,z<=1000000) (hl:zs.length<=1000000) (hA:IntsAt w w.heap.size A (nz zs)) :
 Calls Tryz.prog 52 #[.int .i64 n,.slice A zs.length c,.agg #[.int .i64 s,.int .i64 t,.int .i64 ct,.int .i64 cr,.int .i64 mo]] w (RunPost w n zs s t ct cr mo):=by
 have HB0:Hid (Below w.heap.size w (w.alloc (.cells #[.int .i64 s,.int .i64 t,.int .i64 ct,.int .i64 cr,.int .i64 mo] 34))):=(Below.refl _ _).alloc (Nat.le_refl _) _
 have HK0:Hid ((w.alloc (.cells #[.int .i64 s,.int .i64 t,.int .i64 ct,.int .i64 cr,.int .i64 mo] 34)).heap[w.heap.size]?=some (.cells #[.int .i64 s,.int .i64 t,.int .i64 ct,.int .i64 cr,.int .i64 mo] 34 (0,0))):=heap_alloc_new _ _
 have HZ:=Lib.hid hz
 have HA:=Lib.hid hA
 clear hz hA
 go_enter Tryz.func52,Tryz.ntmps52
 go_upto_region 1 with fail
 generalize w.alloc (.cells #[.int .i64 s,.int .i64 t,.int .i64 ct,.int .i64 cr,.int .i64 mo] 34)=W0 at *
 have y0:W0.cell? ⟨w.heap.size,0,none⟩=some (.int .i64 s):=cell_of_row _ _ 0 _ _ _ HK0.out
 have y1:W0.cell? ⟨w.heap.size,1,none⟩=some (.int .i64 t):=cell_of_row _ _ 1 _ _ _ HK0.out
 have y2:W0.cell? ⟨w.heap.size,2,none⟩=some (.int .i64 ct):=cell_of_row _ _ 2 _ _ _ HK0.out
 have y3:W0.cell? ⟨w.heap.size,3,none⟩=some (.int .i64 cr):=cell_of_row _ _ 3 _ _ _ HK0.out
 have y4:W0.cell? ⟨w.heap.size,4,none⟩=some (.int .i64 mo):=cell_of_row _ _ 4 _ _ _ HK0.out
 have HF1:=Lib.hid (far_c s W0)
 have HF2:=Lib.hid (far_c t W0)
 have HF3:=Lib.hid (far_c cr W0)
 have HBAD:Hid (∀ z:Int,z≠0->∀ W,Below w.heap.size w W->RunPost w n zs s t ct cr mo (.returned (.tuple #[.int .i64 0,.int .i64 z])) W):=fun z hz W hW=>⟨⟨0,z,rfl,fun h=>absurd h hz⟩,hW⟩
 have hnb:(n:Int)<=64:=by omega
 have hnb1:¬ (n:Int)<1:=by omega
 by_cases h1:s < -2147483648\/2147483648<s
 . rw [decide_eq_true h1] at HF1
   clear h1
   go_wp2_with fail
   with_reducible refine HF1.out.mono ?_
   rintro e w' ⟨rfl,rfl⟩
   go_wp2_with fail
   go_ret2
   exact HBAD.out 6 (by decide) _ HB0.out
 rw [decide_eq_false h1] at HF1
 by_cases h2:t < -2147483648\/2147483648<t
 . rw [decide_eq_true h2] at HF2
   clear h1 h2
   go_wp2_with fail
   with_reducible refine HF1.out.mono ?_
   rintro e w' ⟨rfl,rfl⟩
   go_wp2_with fail
   with_reducible refine HF2.out.mono ?_
   rintro e w' ⟨rfl,rfl⟩
   go_wp2_with fail
   go_ret2
   exact HBAD.out 6 (by decide) _ HB0.out
 rw [decide_eq_false h2] at HF2
 by_cases h3:cr < -2147483648\/2147483648<cr
 . rw [decide_eq_true h3] at HF3
   clear h1 h2 h3
   go_wp2_with fail
   with_reducible refine HF1.out.mono ?_
   rintro e w' ⟨rfl,rfl⟩
   go_wp2_with fail
   with_reducible refine HF2.out.mono ?_
   rintro e w' ⟨rfl,rfl⟩
   go_wp2_with fail
   with_reducible refine HF3.out.mono ?_
   rintro e w' ⟨rfl,rfl⟩
   go_wp2_with fail
   go_ret2
   exact HBAD.out 6 (by decide) _ HB0.out
 rw [decide_eq_false h3] at HF3
 have h1':-2147483648<=s/\s<=2147483648:=by omega
 have h2':-2147483648<=t/\t<=2147483648:=by omega
 have h3':-2147483648<=cr/\cr<=2147483648:=by omega
 clear h1 h2 h3
 by_cases h4:ct<1\/(n:Int)<ct\/mo<0\/(n:Int)<mo
 . go_wp2_with fail
   with_reducible refine HF1.out.mono ?_
   rintro e w' ⟨rfl,rfl⟩
   go_wp2_with fail
   with_reducible refine HF2.out.mono ?_
   rintro e w' ⟨rfl,rfl⟩
   go_wp2_with fail
   with_reducible refine HF3.out.mono ?_
   rintro e w' ⟨rfl,rfl⟩
   by_cases h5:ct<1
   . go_wp2_with fail
     go_ret2
     exact HBAD.out 6 (by decide) _ HB0.out
   by_cases h6:(n:Int)<ct
   . go_wp2_with fail
     go_ret2
     exact HBAD.out 6 (by decide) _ HB0.out
   by_cases h7:mo<0
   . go_wp2_with fail
     go_ret2
     exact HBAD.out 6 (by decide) _ HB0.out
   . have h8 : (n : Int) < mo := by omega
     go_wp2_with fail
     go_ret2
     exact HBAD.out 6 (by decide) _ HB0.out
 obtain ⟨c1,rfl⟩:∃ c1:Nat,ct=(c1:Int):=⟨ct.toNat,by omega⟩
 obtain ⟨m1,rfl⟩:∃ m1:Nat,mo=(m1:Int):=⟨mo.toNat,by omega⟩
 have h5:¬ (c1:Int)<1:=by omega
 have h6:¬ (n:Int)<(c1:Int):=by omega
 have h7:¬ (m1:Int)<0:=by omega
 have h8:¬ (n:Int)<(m1:Int):=by omega
 clear h4
 have e5:decide ((c1:Int)<1)=false:=decide_eq_false (by omega)
 have e6:decide ((n:Int)<(c1:Int))=false:=decide_eq_false (by omega)
 have e6n:decide (n<c1)=false:=decide_eq_false (by omega)
 have e7:decide ((m1:Int)<0)=false:=decide_eq_false (by omega)
 have e8:decide ((n:Int)<(m1:Int))=false:=decide_eq_false (by omega)
 have e8n:decide (n<m1)=false:=decide_eq_false (by omega)
 have e9:decide ((64:Int)<(n:Int))=false:=decide_eq_false (by omega)
 clear h5 h6 h7 h8
 have HD1:Hid (∀ k,Calls Tryz.prog 109 #[.int .i64 t,.int .i64 n] (W0.drewN k) fun e w''=>e=.returned (.int .i64 ((Nat.gcd (t % (n:Int)).toNat n:Nat):Int))/\∃ m,w''=W0.drewN m):=fun k=>(divisor_c t n _ hn (by omega) (by omega)).mono fun e w' ⟨h1,j,h2⟩=>⟨h1,k+j,by rw [h2];simp [World.drewN];omega⟩
 have HD2:Hid (∀ k,Calls Tryz.prog 109 #[.int .i64 cr,.int .i64 n] (W0.drewN k) fun e w''=>e=.returned (.int .i64 ((Nat.gcd (cr % (n:Int)).toNat n:Nat):Int))/\∃ m,w''=W0.drewN m):=fun k=>(divisor_c cr n _ hn (by omega) (by omega)).mono fun e w' ⟨h1,j,h2⟩=>⟨h1,k+j,by rw [h2];simp [World.drewN];omega⟩
 obtain ⟨g1,hg1⟩:∃ g1,Nat.gcd (t % (n:Int)).toNat n=g1:=⟨_,rfl⟩
 obtain ⟨g2,hg2⟩:∃ g2,Nat.gcd (cr % (n:Int)).toNat n=g2:=⟨_,rfl⟩
 rw [hg1] at HD1
 rw [hg2] at HD2
 have HG1:=Lib.hid hg1
 have HG2:=Lib.hid hg2
 clear hg1 hg2
 go_upto_region 5 with (first
  | (with_reducible refine HF1.out.mono ?_;rintro e w' ⟨rfl,rfl⟩)
  | (with_reducible refine HF2.out.mono ?_;rintro e w' ⟨rfl,rfl⟩)
  | (with_reducible refine HF3.out.mono ?_;rintro e w' ⟨rfl,rfl⟩))
 by_cases ha:g1=1
 rotate_left
 . have hA : ((g1 : Int) != 1) = true := bne_iff_ne.2 (by omega)
   have HNG:Hid (∀ k,Below w.heap.size w (W0.drewN k)):=fun k=>qaA HB0.out k
   clear HD2 HG1 HG2 ha
   go_quiet (first | (go_at_call 109;with_reducible exact HD1.out _))
   go_wp2_with fail
   go_ret2
   exact HBAD.out 13 (by decide) _ (HNG.out _)
 have hA:((g1:Int) != 1)=false:=by rw [ha];rfl
 have hA1:Hid (g1=1):=ha
 clear ha
 go_cut [54] (fun v54 wx=>(∃ b,v54=.bool b/\(b=false->m1=0\/g2<=c1))/\∃ k,wx=W0.drewN k)
 case first =>
  by_cases hm:m1=0
  . have hd : decide ((0 : Int) < (m1 : Int)) = false := decide_eq_false (by omega)
    have hd2:¬ (0:Int)<(m1:Int):=by omega
    have hd3:¬ 0<m1:=by omega
    have HM:Hid (m1=0):=hm
    clear hm
    go_quiet (first | (go_at_call 109;with_reducible exact HD1.out _))
    go_wp2_with fail
    go_meet
    exact ⟨⟨_,rfl,fun _=>.inl HM.out⟩,_,rfl⟩
  . have hd : decide ((0 : Int) < (m1 : Int)) = true := decide_eq_true (by omega)
    have hd2:(0:Int)<(m1:Int):=by omega
    have hd3:0<m1:=by omega
    clear hm
    go_quiet (first | (go_at_call 109;with_reducible exact HD1.out _) | (go_at_call 109;with_reducible exact HD2.out _))
    go_wp2_with fail
    go_meet
    exact ⟨⟨_,rfl,fun h=>.inr (by simpa using h)⟩,_,rfl⟩
 case rest =>
  obtain ⟨⟨b,rfl,hb⟩,k,rfl⟩:=hcut
  cases b
  rotate_left
  . have HNG := Lib.hid (qaA HB0.out k)
    clear HD1 HD2 HG1 HG2 hb
    go_wp2_with fail
    go_ret2
    exact HBAD.out 13 (by decide) _ HNG.out
  have HG3:Hid (Nat.gcd (t % (n:Int)).toNat n=1/\(m1=0\/Nat.gcd (cr % (n:Int)).toNat n<=c1)):=⟨by rw [HG1.out,hA1.out],by rw [HG2.out];exact hb rfl⟩
  have HNG:=Lib.hid (qaA HB0.out k)
  have HK1:Hid ((W0.drewN k).heap[w.heap.size]?=some (.cells #[.int .i64 s,.int .i64 t,.int .i64 c1,.int .i64 cr,.int .i64 m1] 34 (0,0))):=HK0.out
  have HCB:Hid (1<=c1/\c1<=n/\m1<=n):=⟨by have:=of_decide_eq_false e5;omega,by have:=of_decide_eq_false e6n;omega,by have:=of_decide_eq_false e8n;omega⟩
  clear HD1 HD2 HG1 HG2 hb hA1 hA HB0 HK0 y0 y1 y2 y3 y4 e5 e6 e6n e7 e8 e8n
  generalize W0.drewN k=W1 at *
  have hlt1:w.heap.size<W1.heap.size:=qbE HK1.out
  have HME:=Lib.hid (members_c n zs A c W1 hn (by omega) HZ.out hl ((HA.out.keep HNG.out).more HNG.out.size))
  go_wp2_with fail
  with_reducible refine HME.out.mono ?_
  rintro e w2 ⟨⟨bs,rfl,hmem,hbr⟩,hb2⟩
  have HK2:Hid (w2.heap[w.heap.size]?=some (.cells #[.int .i64 s,.int .i64 t,.int .i64 c1,.int .i64 cr,.int .i64 m1] 34 (0,0))):=(hb2.block _ hlt1).trans HK1.out
  have HB2:Hid (Below w.heap.size w w2):=HNG.out.trans (hb2.mono HNG.out.size)
  have HMB:=Lib.hid hmem
  have HBR:=Lib.hid hbr
  have y0:w2.cell? ⟨w.heap.size,0,none⟩=some (.int .i64 s):=cell_of_row _ _ 0 _ _ _ HK2.out
  have y1:w2.cell? ⟨w.heap.size,1,none⟩=some (.int .i64 t):=cell_of_row _ _ 1 _ _ _ HK2.out
  have y2:w2.cell? ⟨w.heap.size,2,none⟩=some (.int .i64 c1):=cell_of_row _ _ 2 _ _ _ HK2.out
  have y3:w2.cell? ⟨w.heap.size,3,none⟩=some (.int .i64 cr):=cell_of_row _ _ 3 _ _ _ HK2.out
  have y4:w2.cell? ⟨w.heap.size,4,none⟩=some (.int .i64 m1):=cell_of_row _ _ 4 _ _ _ HK2.out
  have HMO:Hid (∀ x:Int,-4000000000000000000<=x/\x<=4000000000000000000->Calls Tryz.prog 111 #[.int .i64 x,.int .i64 n] w2 fun e w'=>e=.returned (.int .i64 (x % (n:Int)))/\w2=w'):=fun x hx=>modulo_c x n w2 (by omega) (by omega) hx
  obtain ⟨hc1,hcn,hmn⟩:=HCB.out
  clear hmem hbr hb2 HME HNG HK1 HK2
  go_wp2_with fail
  go_loopw [79] (fun v79 wr=>RelR1 w2 zs n s t cr c1 m1 v79 wr) (fun v79 _=>c1-(intOf v79).toNat)
  case atStart=>exact ⟨0,by omega,rfl,rfl,fun i' j h=>absurd h (by omega)⟩
  case round =>
   obtain ⟨i,hi,rfl,rfl,hh⟩:=hrel
   have HH:=Lib.hid hh
   clear hh
   by_cases hlt:i<c1
   . have i1 : IntKind.i64.wrap ((m1 : Int) + 1) = ((m1 + 1 : Nat) : Int) := by rw [IntWalk.i64_in _ (by omega)];omega
     obtain ⟨ta,tb⟩:=mul_b i t (by omega) h2'.1 h2'.2
     obtain ⟨pr,hpr⟩:∃ pr:Int,(i:Int)*t=pr:=⟨_,rfl⟩
     have i2:IntKind.i64.wrap ((i:Int)*t)=pr:=by rw [IntWalk.i64_in _ (by omega),hpr]
     rw [hpr] at ta tb
     have HPR:=Lib.hid hpr
     clear hpr
     have i3:IntKind.i64.wrap (s+pr)=s+pr:=IntWalk.i64_in _ (by omega)
     go_wp2_with fail
     go_loopw [85] (fun v85 wy=>RelR2 wr zs n s t cr i m1 v85 wy) (fun v85 _=>m1+1-(intOf v85).toNat)
     case atStart=>exact ⟨0,by omega,rfl,rfl,fun j' h=>absurd h (by omega)⟩
     case round =>
      obtain ⟨j,hj,rfl,rfl,hh2⟩:=hrel
      have HH2:=Lib.hid hh2
      clear hh2
      by_cases hlt2:j<m1+1
      . obtain ⟨ua,ub⟩ := mul_b j cr (by omega) h3'.1 h3'.2
        obtain ⟨qr,hqr⟩:∃ qr:Int,(j:Int)*cr=qr:=⟨_,rfl⟩
        have i4:IntKind.i64.wrap ((j:Int)*cr)=qr:=by rw [IntWalk.i64_in _ (by omega),hqr]
        rw [hqr] at ua ub
        have i5:IntKind.i64.wrap (s+pr+qr)=s+pr+qr:=IntWalk.i64_in _ (by omega)
        have i6:IntKind.i64.wrap ((j:Int)+1)=(j:Int)+1:=IntWalk.i64_in _ (by omega)
        have HM1:=Lib.hid (HMO.out (s+pr+qr) (by omega))
        have hz:=Int.emod_nonneg (s+pr+qr) (show (n:Int)≠0 by omega)
        have hz2:=Int.emod_lt_of_pos (s+pr+qr) (show 0<(n:Int) by omega)
        obtain ⟨e0,he0⟩:∃ e0:Nat,(s+pr+qr) % (n:Int)=(e0:Int):=⟨((s+pr+qr) % (n:Int)).toNat,by omega⟩
        rw [he0] at HM1 hz hz2
        have HHIT:Hid (bs.getD e0 false=true->Hit zs n s t cr i j):=fun hb=>by
         obtain ⟨z,hz,hze⟩:=HMB.out.2 e0 hb
         exact ⟨z,hz,by rw [hze,HPR.out,hqr,he0]⟩
        have hlt3:(j:Int)<((m1+1:Nat):Int):=by omega
        clear he0 hqr
        have c0:=HBR.out.cell (j:=e0) (by rw [HMB.out.1];omega)
        cases hbe:bs.getD e0 false
        . rw [hbe] at c0
          clear hbe
          go_wp2_with fail
          with_reducible refine HM1.out.mono ?_
          rintro e w' ⟨rfl,rfl⟩
          go_wp2_with fail
          go_ret2
          exact HBAD.out 13 (by decide) _ HB2.out
        . rw [hbe] at c0
          have HT:=Lib.hid (HHIT.out hbe)
          clear hbe HHIT
          go_wp2_with fail
          with_reducible refine HM1.out.mono ?_
          rintro e w' ⟨rfl,rfl⟩
          go_wp2_with fail
          go_roundw
          case rel=>exact ⟨j+1,by omega,by simp,rfl,fun j' h=>by
           rcases Nat.lt_succ_iff_lt_or_eq.1 h with h | rfl
           . exact HH2.out j' h
           . exact HT.out⟩
          case measure=>simp [intOf];omega
      . obtain rfl : j = m1 + 1 := by omega
        have i6:IntKind.i64.wrap ((i:Int)+1)=(i:Int)+1:=IntWalk.i64_in _ (by omega)
        go_wp2_with fail
        go_roundw
        case rel=>exact ⟨i+1,by omega,by simp,rfl,fun i' j h1 h2=>by
         rcases Nat.lt_succ_iff_lt_or_eq.1 h1 with h | rfl
         . exact HH.out i' j h h2
         . exact HH2.out j h2⟩
        case measure=>simp [intOf];omega
   . obtain rfl : c1 = i := by omega
     have i4:IntKind.i64.wrap ((c1:Int)+1)=(c1:Int)+1:=IntWalk.i64_in _ (by omega)
     have i5:IntKind.i64.wrap ((c1:Int)+1+(m1:Int))=(c1:Int)+1+(m1:Int):=IntWalk.i64_in _ (by omega)
     go_wp2_with fail
     go_ret2
     exact ⟨⟨_,_,rfl,fun _=>⟨c1,m1,rfl,rfl,hc1,hcn,hmn,HG3.out.1,HG3.out.2,rfl,HH.out⟩⟩,HB2.out⟩
end Go.Proofs.YtlmglaonldlanaaGreat
