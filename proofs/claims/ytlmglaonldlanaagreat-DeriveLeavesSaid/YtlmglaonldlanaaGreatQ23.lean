/-
 The reference's field: Inv. The reference's rows: scale, AddTo. The reference's rows: AddTo. The reference's rows: Copy.
-/
import Derived.Test.YtlmglaonldlanaaGreatQ22
import Derived.Test.YtlmglaonldlanaaGreatQ15
namespace Go.Proofs.YtlmglaonldlanaaGreat
open Go.RowKit Pln
def RelIn (w:World) (p m:Nat) (A:Option Addr) (n c:Nat) (mul:Nat->Nat->Nat) (x:Nat) (v5:Value) (wr:World):Prop :=
 ∃ y:Nat,1<=y/\y<=p ^ m/\v5=.int .i64 (y:Int)/\refInv mul (p ^ m) x=invGo mul x (p ^ m-y) y/\SBoxF w p m A n c wr
set_option maxHeartbeats 1000000 in
set_option maxRecDepth 100000 in
theorem rinv_c (p m:Nat) (md:List Nat) (A:Option Addr) (n c x:Nat) (w:World) (hs:Small p m) (hmd:md.length=m) (hml:∀ d∈md,d<p) (hM:2<=m->n=m/\IntsAt w w.heap.size A (nz md)) (hx:x<p ^ m) :
 Calls Tryz.prog 149 #[.agg #[.int .i64 p,.int .i64 m,.slice A n c],.int .i64 x] w fun e w'=>e=.returned (.int .i64 ((refInv (refMul p m md) (p ^ m) x:Nat):Int))/\Below w.heap.size w w':=by
 have HX:=Lib.hid (qbP w p m A n c)
 have HO:Hid (∀ W:World,Calls Tryz.prog 33 #[.agg #[.int .i64 p,.int .i64 m,.slice A n c]] W fun e w'=>e=.returned (.int .i64 ((p ^ m:Nat):Int))/\Below W.heap.size W w'):=fun W=>by
  have:=rorder_c p m A n c W
  rw [qdD hs.p1 hs.p2 hs.m1 hs.m2,if_neg (by have:=hs.q;omega)] at this
  exact this
 have HMU:Hid (∀ (y:Nat) (W:World),y<p ^ m->Below w.heap.size w W->Calls Tryz.prog 91 #[.agg #[.int .i64 p,.int .i64 m,.slice A n c],.int .i64 x,.int .i64 y] W fun e w'=>e=.returned (.int .i64 ((refMul p m md x y:Nat):Int))/\Below W.heap.size W w'):=fun y W hy hW =>
  rmul_c p m md A n c x y W hs hmd hml (fun h=>⟨(hM h).1,((hM h).2.keep hW).more hW.size⟩) hx hy
 have hq:=hs.q
 have hq1:1<=p ^ m:=Nat.pow_pos (by have:=hs.p1;omega)
 clear hs hmd hml hM hx
 generalize refMul p m md=mul at *
 go_enter Tryz.func149,Tryz.ntmps149
 go_upto_region 1 with fail
 generalize w.alloc (.cells #[.int .i64 (p:Int),.int .i64 (m:Int),.slice A n c] 29)=W0 at *
 have HS0:Hid (RelIn w p m A n c mul x (.int .i64 ((1:Nat):Int)) W0):=⟨1,Nat.le_refl _,hq1,rfl,rfl,HX.out⟩
 have HRI:Hid (∀ v wr,RelIn w p m A n c mul x v wr=∃ y:Nat,1<=y/\y<=p ^ m/\v=.int .i64 (y:Int)/\refInv mul (p ^ m) x=invGo mul x (p ^ m-y) y/\SBoxF w p m A n c wr):=fun _ _=>rfl
 generalize hqe:p ^ m=q at *
 have HQE:=Lib.hid hqe
 clear hqe
 go_wp2_with fail
 go_loopw [5] (fun v5 wr=>RelIn w p m A n c mul x v5 wr) (fun v5 _=>q-(intOf v5).toNat)
 case atStart=>exact HS0.out
 case round =>
  rw [HRI.out] at hrel
  obtain ⟨y,hy1,hyq,rfl,hinv,hx⟩:=hrel
  have HINV:=Lib.hid hinv
  have HX1:=Lib.hid hx
  clear hinv hx HS0
  have HRG0:=Lib.hid HX1.out.range
  go_wp2_with (refine wpList_load_mid rfl 29 (.tmp 2) rfl w.heap.size 0 rfl [.int .i64 (p:Int),.int .i64 (m:Int),.slice A n c] _ HRG0.out Tryz.underlying29 rfl fieldSize ?_)
  (with_reducible refine (HO.out wr).mono ?_)
  rintro e w1 ⟨rfl,hb1⟩
  have HX2:=Lib.hid (HX1.out.grow hb1)
  clear hb1 HX1 HRG0
  by_cases hlt:y<q
  . have HRG0 := Lib.hid HX2.out.range
    have HC:=Lib.hid (HMU.out y w1 hlt HX2.out.1)
    have HST:Hid (invGo mul x (q-y) y=if mul x y=1 then y else invGo mul x (q-(y+1)) (y+1)):=by
     show _=_
     rw [show q-y=(q-(y+1))+1 by omega]
     rfl
    generalize mul x y=z at *
    go_wp2_with (refine wpList_load_mid rfl 29 (.tmp 2) rfl w.heap.size 0 rfl [.int .i64 (p:Int),.int .i64 (m:Int),.slice A n c] _ HRG0.out Tryz.underlying29 rfl fieldSize ?_)
    (with_reducible refine HC.out.mono ?_)
    rintro e w2 ⟨rfl,hb2⟩
    have HX3:=Lib.hid (HX2.out.grow hb2)
    clear hb2
    by_cases hz:z=1
    . have HE : Hid (refInv mul q x = y) := by show _ = _;rw [HINV.out,HST.out,if_pos hz]
      have hzb:((z:Int)==1)=true:=by rw [hz];rfl
      clear hz HST
      go_wp2_with fail
      go_ret
      exact ⟨qaD (by rw [HQE.out,HE.out]),HX3.out.1⟩
    . have HE : Hid (refInv mul q x = invGo mul x (q - (y + 1)) (y + 1)) := by show _ = _;rw [HINV.out,HST.out,if_neg hz]
      have hzb:((z:Int)==1)=false:=by rw [beq_eq_false_iff_ne];omega
      clear hz HST
      go_wp2_with fail
      go_roundw
      case rel=>rw [HRI.out];exact ⟨y+1,by omega,by omega,by go_num,HE.out,HX3.out⟩
      case measure=>simp [intOf];omega
  . obtain rfl : y = q := by omega
    have HE:Hid (refInv mul y x=0):=by show _=_;rw [HINV.out,Nat.sub_self];rfl
    go_wp2_with fail
    go_ret
    exact ⟨qaD (by rw [HQE.out,HE.out];rfl),HX2.out.1⟩
end Go.Proofs.YtlmglaonldlanaaGreat
namespace Go.Proofs.YtlmglaonldlanaaGreat
open Go.RowKit Pln
structure RFld (p m:Nat) (md:List Nat) (A:Option Addr) (n:Nat) (B:Nat) (W:World):Prop where
 small:Small p m
 len:md.length=m
 lt:∀ d∈md,d<p
 mod:2<=m->n=m/\IntsAt W B A (nz md)
section
variable {p m:Nat} {md:List Nat} {A:Option Addr} {n c B:Nat} {W W':World}
theorem RFld.keep (h:RFld p m md A n B W) (hb:Below B W W'):RFld p m md A n B W':=⟨h.small,h.len,h.lt,fun h2=>⟨(h.mod h2).1,(h.mod h2).2.keep hb⟩⟩
theorem RFld.more {B':Nat} (h:RFld p m md A n B W) (hB:B<=B'):RFld p m md A n B' W:=⟨h.small,h.len,h.lt,fun h2=>⟨(h.mod h2).1,(h.mod h2).2.more hB⟩⟩
theorem RFld.mul (h:RFld p m md A n W.heap.size W) {x y:Nat} (hx:x<p ^ m) (hy:y<p ^ m) (c:Nat):Calls Tryz.prog 91 #[.agg #[.int .i64 p,.int .i64 m,.slice A n c],.int .i64 x,.int .i64 y] W fun e w'=>e=.returned (.int .i64 (((refOps p m md).mul x y:Nat):Int))/\Below W.heap.size W w' :=
 rmul_c p m md A n c x y W h.small h.len h.lt h.mod hx hy
theorem RFld.add (h:RFld p m md A n B W) {x y:Nat} (hx:x<p ^ m) (hy:y<p ^ m) (c:Nat):Calls Tryz.prog 90 #[.agg #[.int .i64 p,.int .i64 m,.slice A n c],.int .i64 x,.int .i64 y] W fun e w'=>e=.returned (.int .i64 (((refOps p m md).add x y:Nat):Int))/\Below W.heap.size W w' :=
 radd_c p m A n c x y W h.small hx hy
theorem RFld.neg (h:RFld p m md A n B W) {x:Nat} (hx:x<p ^ m) (c:Nat):Calls Tryz.prog 150 #[.agg #[.int .i64 p,.int .i64 m,.slice A n c],.int .i64 x] W fun e w'=>e=.returned (.int .i64 (((refOps p m md).neg x:Nat):Int))/\Below W.heap.size W w' :=
 rneg_c p m A n c x W h.small hx
theorem RFld.inv (h:RFld p m md A n W.heap.size W) {x:Nat} (hx:x<p ^ m) (c:Nat):Calls Tryz.prog 149 #[.agg #[.int .i64 p,.int .i64 m,.slice A n c],.int .i64 x] W fun e w'=>e=.returned (.int .i64 (((refOps p m md).inv x:Nat):Int))/\Below W.heap.size W w' :=
 rinv_c p m md A n c x W h.small h.len h.lt h.mod hx
theorem RFld.mul_lt (h:RFld p m md A n B W) (x y:Nat):(refOps p m md).mul x y<p ^ m:=by
 show refMul p m md x y<p ^ m
 rw [refMul_eq (by have:=h.small.p1;omega) h.small.m1 h.len]
 exact (qaU (by have:=h.small.p1;omega) h.small.m1 md).lt x y
end
def fK (r:List Nat) (k:Nat):List Nat:=r.take k++List.replicate (r.length-k) 0
theorem fK_len (r:List Nat) (k:Nat) (hk:k<=r.length):(fK r k).length=r.length:=by simp [fK];omega
theorem fK_set (r:List Nat) (k:Nat) (hk:k<r.length):(fK r k).set k (r.getD k 0)=fK r (k+1):=by
 unfold fK
 have h:(r.take k).length=k:=by rw [List.length_take];omega
 rw [List.set_append_right _ _ (by omega),h,Nat.sub_self,show r.length-k=(r.length-(k+1))+1 by omega,List.replicate_succ,List.set_cons_zero,List.take_succ_eq_append_getElem hk,List.append_assoc]
 simp [List.getD,hk]
theorem fK_end (r:List Nat):fK r r.length=r:=by
 unfold fK
 rw [List.take_length,Nat.sub_self,List.replicate_zero,List.append_nil]
def NRow (w:World) (p m:Int) (A:Option Addr) (n c go:Nat) (r:List Nat) (k:Nat) (Av:Option Addr) (v:List Nat) (Au:Option Addr) (u:List Nat) (wr:World):Prop :=
 SBoxF w p m A n c wr/\Row wr (w.heap.size+1) go r.length (nz (fK r k))/\IntsAt wr w.heap.size Av (nz v)/\IntsAt wr w.heap.size Au (nz u)
theorem NRow.grow {w:World} {p m:Int} {A:Option Addr} {n c go:Nat} {r:List Nat} {k:Nat} {Av:Option Addr} {v:List Nat} {Au:Option Addr} {u:List Nat} {wr wx:World} (h:NRow w p m A n c go r k Av v Au u wr) (hb:Below wr.heap.size wr wx):NRow w p m A n c go r k Av v Au u wx:=by
 obtain ⟨h1,h2,h3,h4⟩:=h
 exact ⟨h1.grow hb,h2.below hb h2.lt.2,h3.keep (hb.mono (Nat.le_of_lt h1.2.1)),h4.keep (hb.mono (Nat.le_of_lt h1.2.1))⟩
theorem NRow.set {w:World} {p m:Int} {A:Option Addr} {n c go:Nat} {r:List Nat} {k:Nat} {Av:Option Addr} {v:List Nat} {Au:Option Addr} {u:List Nat} {wr:World} (h:NRow w p m A n c go r k Av v Au u wr) (hk:k<r.length):NRow w p m A n c go r (k+1) Av v Au u (wr.setCell ⟨go,k,none⟩ (.int .i64 ((r.getD k 0:Nat):Int))):=by
 obtain ⟨h1,h2,h3,h4⟩:=h
 have hgo:=h2.lt.1
 have hb:Below w.heap.size wr (wr.setCell ⟨go,k,none⟩ (.int .i64 ((r.getD k 0:Nat):Int))):=(Below.refl _ _).setCell (p:=⟨go,k,none⟩) (by show w.heap.size<=go;omega) _
 refine ⟨h1.wrote hgo _,?_,h3.keep hb,h4.keep hb⟩
 rw [<- fK_set r k hk,<- qbX]
 exact h2.set k _
def RelNR (w:World) (p m:Int) (A:Option Addr) (n c go:Nat) (r:List Nat) (Av:Option Addr) (v:List Nat) (Au:Option Addr) (u:List Nat) (v8:Value) (wr:World):Prop :=
 ∃ k:Nat,k<=r.length/\v8=.int .i64 (k:Int)/\NRow w p m A n c go r k Av v Au u wr
set_option maxHeartbeats 1000000 in
set_option maxRecDepth 100000 in
theorem rscale_c (p m:Nat) (md:List Nat) (A:Option Addr) (n c a:Nat) (v:List Nat) (Av:Option Addr) (cv:Nat) (w:World) (hR:RFld p m md A n w.heap.size w) (ha:a<p ^ m) (hv:∀ x∈v,x<p ^ m) (hA:IntsAt w w.heap.size Av (nz v)) (hl:v.length<=1000) :
 Calls Tryz.prog 148 #[.agg #[.int .i64 p,.int .i64 m,.slice A n c],.int .i64 a,.slice Av v.length cv] w fun e w'=>(∃ g,e=.returned (.slice (some ⟨g,0,none⟩) v.length v.length)/\Row w' w.heap.size g v.length (nz (scaleRow (refOps p m md) a v)))/\Below w.heap.size w w':=by
 have HX:=Lib.hid (qbP w p m A n c)
 have HA:=Lib.hid (hA.keep HX.out.1)
 have HMU:Hid (∀ (x:Nat) (W:World),x<p ^ m->Below w.heap.size w W->Calls Tryz.prog 91 #[.agg #[.int .i64 p,.int .i64 m,.slice A n c],.int .i64 a,.int .i64 x] W fun e w'=>e=.returned (.int .i64 (((refOps p m md).mul a x:Nat):Int))/\Below W.heap.size W w'):=fun x W hx hW=>((hR.keep hW).more hW.size).mul ha hx c
 have hrl:(scaleRow (refOps p m md) a v).length=v.length:=by simp [scaleRow]
 have HRG:Hid (∀ k,k<v.length->(scaleRow (refOps p m md) a v).getD k 0=(refOps p m md).mul a (v.getD k 0)):=fun k hk=>by
  have e1:v[k]?=some (v.getD k 0):=by simp [List.getD,hk]
  unfold scaleRow
  rw [List.getD_eq_getElem?_getD,List.getElem?_map,e1]
  rfl
 have HV:Hid (∀ k,k<v.length->v.getD k 0<p ^ m):=fun k hk=>by
  have:v.getD k 0=v[k]:=by simp [List.getD,hk]
  rw [this]
  exact hv _ (List.getElem_mem hk)
 obtain ⟨i0,hi,hz0,hz1,hz2⟩:=qaG infoInt
 have HI:=Lib.hid hi
 have HZ0:=Lib.hid hz0
 have HZ1:=Lib.hid hz1
 have HB2:=Lib.hid (show i0.bytes*v.length<=281474976710656 by rw [hz2];omega)
 have HB3:=Lib.hid (show v.length<=maxLen by unfold maxLen;omega)
 have HRLN:=Lib.hid hrl
 clear hi hz0 hz1 hz2 hR hA hv hrl ha
 generalize scaleRow (refOps p m md) a v=r at *
 generalize (refOps p m md).mul a=f at *
 go_enter Tryz.func148,Tryz.ntmps148
 go_upto_region 1 with fail
 have hsz0:w.heap.size+1<=(w.alloc (.cells #[.int .i64 (p:Int),.int .i64 (m:Int),.slice A n c] 29)).heap.size:=by simp
 generalize w.alloc (.cells #[.int .i64 (p:Int),.int .i64 (m:Int),.slice A n c] 29)=W0 at *
 go_wp2_with (refine wpList_make_full W0 rfl (.tmp 10) (.tmp 10) 23 rfl (w.heap.size+1) 3 i0 (.int .i64 0) 1 Tryz.underlying23 HI.out HZ0.out HZ1.out .i64 .i64 v.length v.length v.length rfl rfl rfl rfl HB2.out HB3.out hsz0 ?_;intro w1 hown hgr)
 have hb1:=qaL hgr
 have hr1:=Row.of_make hown
 have HS0:Hid (RelNR w p m A n c W0.heap.size r Av v none [] (.int .i64 ((0:Nat):Int)) w1):=⟨0,Nat.zero_le _,rfl,HX.out.grow hb1,by rw [HRLN.out];unfold fK;rw [List.take_zero,List.nil_append,HRLN.out];exact hr1,HA.out.keep (hb1.mono (by omega)),fun h=>by simp [nz] at h⟩
 clear hown hgr hb1 hr1 hsz0 HX HA HI HZ0 HZ1 HB2 HB3
 generalize W0.heap.size=go at *
 go_wp2_with fail
 go_loopw [8] (fun v8 wr=>RelNR w p m A n c go r Av v none [] v8 wr) (fun v8 _=>v.length-(intOf v8).toNat)
 case atStart=>exact HS0.out
 case round =>
  obtain ⟨k,hk,rfl,hn⟩:=hrel
  have HN:=Lib.hid hn
  clear hn HS0
  rw [HRLN.out] at hk
  by_cases hlt:k<v.length
  . obtain ⟨b,o,rfl,hbl,hc⟩ := HN.out.2.2.1.at_ (k := k) (by rw [qaB];exact hlt)
    have HGT:=Lib.hid (HRG.out k hlt)
    have hxq:=HV.out k hlt
    have k0:(0:Int)<=(k:Int):=by omega
    have k1:(k:Int)<(v.length:Int):=by omega
    have HCL:Hid (∀ W,NRow w p m A n c go r k (some ⟨b,o,none⟩) v none [] W->Calls Tryz.prog 91 #[.agg #[.int .i64 p,.int .i64 m,.slice A n c],.int .i64 a,.int .i64 ((v.getD k 0:Nat):Int)] W fun e w'=>e=.returned (.int .i64 ((r.getD k 0:Nat):Int))/\NRow w p m A n c go r k (some ⟨b,o,none⟩) v none [] w'):=fun W hW=>by
     have:=HMU.out (v.getD k 0) W hxq hW.1.1
     rw [<- HGT.out] at this
     exact this.mono fun e w' ⟨he,hb⟩=>⟨he,hW.grow hb⟩
    have HVC:Hid (∀ W,NRow w p m A n c go r k (some ⟨b,o,none⟩) v none [] W->W.cell? ⟨b,o+k,none⟩=some (.int .i64 ((v.getD k 0:Nat):Int))):=fun W hW=>by
     obtain ⟨b',o',e,_,h⟩:=hW.2.2.1.at_ (k:=k) (by rw [qaB];exact hlt)
     injection e with e
     injection e with e1 e2
     subst e1 e2
     rw [qaF] at h
     exact h
    have HSET:Hid (∀ wr,NRow w p m A n c go r k (some ⟨b,o,none⟩) v none [] wr->NRow w p m A n c go r (k+1) (some ⟨b,o,none⟩) v none [] (wr.setCell ⟨go,k,none⟩ (.int .i64 ((r.getD k 0:Nat):Int)))):=fun wr h=>h.set (by rw [HRLN.out];exact hlt)
    clear hc hxq
    generalize r.getD k 0=z at *
    generalize v.getD k 0=xv at *
    go_upto_region 5 with fail
    refine qaN 10 (NRow w p m A n c go r k (some ⟨b,o,none⟩) v none []) (by kernel_rfl) (by kernel_rfl) (HN.out.grow (Below.refl _ _).drew) ?_
    simp only [List.take_succ_cons,List.take_zero,List.drop_succ_cons,List.drop_zero]
    repeat (first
     | (refine qbG rfl 29 (.tmp 3) rfl w.heap.size 0 rfl [.int .i64 (p : Int),.int .i64 (m : Int),.slice A n c] _ (fun W hW => hW.1.range) Tryz.underlying29 rfl fieldSize ?_
        go_simp)
     | (apply qaM rfl
        . intro W hS
          have yv:=HVC.out W hS
          go_simp
          rfl
        go_simp)
     | (apply qaV rfl
        . intro W hS
          go_simp
          exact ⟨rfl,rfl⟩
        . intro W hS
          exact HCL.out W hS
        go_simp))
    refine qaJ ?_
    intro w2 hS2
    have HS2:=Lib.hid hS2
    have f0:=hS2.2.1.frozen k
    have c0:=hS2.2.1.cell (j:=k) (by rw [qaB,fK_len r k (by rw [HRLN.out];omega),HRLN.out];exact hlt)
    clear hS2
    go_wp2_with fail
    go_roundw
    case rel=>exact ⟨k+1,by rw [HRLN.out];omega,by go_num,HSET.out _ HS2.out⟩
    case measure=>simp [intOf];omega
  . obtain rfl : k = v.length := by omega
    have HRR:Hid (Row wr w.heap.size go v.length (nz r)):=by
     have:=HN.out.2.1
     rw [<- HRLN.out,fK_end] at this
     rw [<- HRLN.out]
     exact this.base (by have:=this.lt;omega)
    go_wp2_with fail
    go_ret
    exact ⟨⟨go,rfl,HRR.out⟩,HN.out.1.1⟩
end Go.Proofs.YtlmglaonldlanaaGreat
namespace Go.Proofs.YtlmglaonldlanaaGreat
open Go.RowKit Pln
def NRowL (w:World) (p m:Int) (A:Option Addr) (n c go N:Nat) (L:List Nat) (Av:Option Addr) (v:List Nat) (Au:Option Addr) (u:List Nat) (wr:World):Prop :=
 SBoxF w p m A n c wr/\Row wr (w.heap.size+1) go N (nz L)/\IntsAt wr w.heap.size Av (nz v)/\IntsAt wr w.heap.size Au (nz u)
section
variable {w:World} {p m:Int} {A:Option Addr} {n c go N:Nat} {L:List Nat} {Av:Option Addr} {v:List Nat} {Au:Option Addr} {u:List Nat} {wr wx:World}
theorem NRowL.grow (h:NRowL w p m A n c go N L Av v Au u wr) (hb:Below wr.heap.size wr wx):NRowL w p m A n c go N L Av v Au u wx:=by
 obtain ⟨h1,h2,h3,h4⟩:=h
 exact ⟨h1.grow hb,h2.below hb h2.lt.2,h3.keep (hb.mono (Nat.le_of_lt h1.2.1)),h4.keep (hb.mono (Nat.le_of_lt h1.2.1))⟩
theorem NRowL.set (h:NRowL w p m A n c go N L Av v Au u wr) (k x:Nat):NRowL w p m A n c go N (L.set k x) Av v Au u (wr.setCell ⟨go,k,none⟩ (.int .i64 (x:Int))):=by
 obtain ⟨h1,h2,h3,h4⟩:=h
 have hgo:=h2.lt.1
 have hb:Below w.heap.size wr (wr.setCell ⟨go,k,none⟩ (.int .i64 (x:Int))):=(Below.refl _ _).setCell (p:=⟨go,k,none⟩) (by show w.heap.size<=go;omega) _
 refine ⟨h1.wrote hgo _,?_,h3.keep hb,h4.keep hb⟩
 rw [<- qbX]
 exact h2.set k _
theorem NRowL.cv (h:NRowL w p m A n c go N L Av v Au u wr) {k:Nat} (hk:k<v.length):∃ b o,Av=some ⟨b,o,none⟩/\wr.cell? ⟨b,o+k,none⟩=some (.int .i64 ((v.getD k 0:Nat):Int)):=by
 obtain ⟨b,o,e,_,h⟩:=h.2.2.1.at_ (k:=k) (by rw [qaB];exact hk)
 rw [qaF] at h
 exact ⟨b,o,e,h⟩
theorem NRowL.cu (h:NRowL w p m A n c go N L Av v Au u wr) {k:Nat} (hk:k<u.length):∃ b o,Au=some ⟨b,o,none⟩/\wr.cell? ⟨b,o+k,none⟩=some (.int .i64 ((u.getD k 0:Nat):Int)):=by
 obtain ⟨b,o,e,_,h⟩:=h.2.2.2.at_ (k:=k) (by rw [qaB];exact hk)
 rw [qaF] at h
 exact ⟨b,o,e,h⟩
end
theorem NRowL.cv' {w:World} {p m:Int} {A:Option Addr} {n c go N:Nat} {L:List Nat} {v:List Nat} {Au:Option Addr} {u:List Nat} {wr:World} {b o:Nat} (h:NRowL w p m A n c go N L (some ⟨b,o,none⟩) v Au u wr) {k:Nat} (hk:k<v.length):wr.cell? ⟨b,o+k,none⟩=some (.int .i64 ((v.getD k 0:Nat):Int)):=by
 obtain ⟨b',o',e,h1⟩:=h.cv hk
 injection e with e
 injection e with e1 e2
 subst e1 e2
 exact h1
theorem NRowL.cu' {w:World} {p m:Int} {A:Option Addr} {n c go N:Nat} {L:List Nat} {v:List Nat} {Av:Option Addr} {u:List Nat} {wr:World} {b o:Nat} (h:NRowL w p m A n c go N L Av v (some ⟨b,o,none⟩) u wr) {k:Nat} (hk:k<u.length):wr.cell? ⟨b,o+k,none⟩=some (.int .i64 ((u.getD k 0:Nat):Int)):=by
 obtain ⟨b',o',e,h1⟩:=h.cu hk
 injection e with e
 injection e with e1 e2
 subst e1 e2
 exact h1
def RelAT (w:World) (p m:Int) (A:Option Addr) (n c go N:Nat) (r:List Nat) (Av:Option Addr) (v:List Nat) (Au:Option Addr) (u:List Nat) (v10:Value) (wr:World):Prop :=
 ∃ k:Nat,k<=N/\v10=.int .i64 (k:Int)/\NRowL w p m A n c go N (fK r k) Av v Au u wr
set_option maxHeartbeats 1000000 in
set_option maxRecDepth 100000 in
theorem raddto_c (p m:Nat) (md:List Nat) (A:Option Addr) (n c a:Nat) (v u:List Nat) (Av Au:Option Addr) (cv cu:Nat) (w:World) (hR:RFld p m md A n w.heap.size w) (ha:a<p ^ m) (hv:∀ x∈v,x<p ^ m) (hu:∀ x∈u,x<p ^ m) (hlen:v.length=u.length) (hA:IntsAt w w.heap.size Av (nz v)) (hU:IntsAt w w.heap.size Au (nz u)) (hl:v.length<=1000) :
 Calls Tryz.prog 42 #[.agg #[.int .i64 p,.int .i64 m,.slice A n c],.slice Av v.length cv,.int .i64 a,.slice Au v.length cu] w fun e w'=>(∃ g,e=.returned (.slice (some ⟨g,0,none⟩) v.length v.length)/\Row w' w.heap.size g v.length (nz (addRow (refOps p m md) v a u)))/\Below w.heap.size w w':=by
 have HX:=Lib.hid (qbP w p m A n c)
 have HA:=Lib.hid (hA.keep HX.out.1)
 have HUU:=Lib.hid (hU.keep HX.out.1)
 have HMU:Hid (∀ (x:Nat) (W:World),x<p ^ m->Below w.heap.size w W->Calls Tryz.prog 91 #[.agg #[.int .i64 p,.int .i64 m,.slice A n c],.int .i64 a,.int .i64 x] W fun e w'=>e=.returned (.int .i64 (((refOps p m md).mul a x:Nat):Int))/\Below W.heap.size W w'):=fun x W hx hW=>((hR.keep hW).more hW.size).mul ha hx c
 have HAD:Hid (∀ (x y:Nat) (W:World),x<p ^ m->y<p ^ m->Below w.heap.size w W->Calls Tryz.prog 90 #[.agg #[.int .i64 p,.int .i64 m,.slice A n c],.int .i64 x,.int .i64 y] W fun e w'=>e=.returned (.int .i64 (((refOps p m md).add x y:Nat):Int))/\Below W.heap.size W w'):=fun x y W hx hy hW=>(hR.keep hW).add hx hy c
 have HML:Hid (∀ x,(refOps p m md).mul a x<p ^ m):=fun x=>hR.mul_lt a x
 have hrl:(addRow (refOps p m md) v a u).length=v.length:=qcR _ _ _ _ hlen
 have HRG:Hid (∀ k,k<v.length->(addRow (refOps p m md) v a u).getD k 0=if u.getD k 0=0 then v.getD k 0 else (refOps p m md).add (v.getD k 0) ((refOps p m md).mul a (u.getD k 0))):=fun k hk=>by
  have e1:v[k]?=some (v.getD k 0):=by simp [List.getD,hk]
  have e2:u[k]?=some (u.getD k 0):=by simp [List.getD,show k<u.length by omega]
  unfold addRow
  rw [List.getD_eq_getElem?_getD,List.getElem?_zipWith,e1,e2]
  rfl
 have HV:Hid (∀ k,k<v.length->v.getD k 0<p ^ m):=fun k hk=>by
  have:v.getD k 0=v[k]:=by simp [List.getD,hk]
  rw [this]
  exact hv _ (List.getElem_mem hk)
 have HU:Hid (∀ k,k<v.length->u.getD k 0<p ^ m):=fun k hk=>by
  have hk2:k<u.length:=by omega
  have:u.getD k 0=u[k]:=by simp [List.getD,hk2]
  rw [this]
  exact hu _ (List.getElem_mem hk2)
 obtain ⟨i0,hi,hz0,hz1,hz2⟩:=qaG infoInt
 have HI:=Lib.hid hi
 have HZ0:=Lib.hid hz0
 have HZ1:=Lib.hid hz1
 have HB2:=Lib.hid (show i0.bytes*v.length<=281474976710656 by rw [hz2];omega)
 have HB3:=Lib.hid (show v.length<=maxLen by unfold maxLen;omega)
 have HRLN:=Lib.hid hrl
 have HLEN:=Lib.hid hlen
 clear hi hz0 hz1 hz2 hR hA hU hv hu hrl ha hlen
 generalize addRow (refOps p m md) v a u=r at *
 generalize refOps p m md=O at *
 generalize p ^ m=q at *
 go_enter Tryz.func42,Tryz.ntmps42
 go_upto_region 1 with fail
 have hsz0:w.heap.size+1<=(w.alloc (.cells #[.int .i64 (p:Int),.int .i64 (m:Int),.slice A n c] 29)).heap.size:=by simp
 generalize w.alloc (.cells #[.int .i64 (p:Int),.int .i64 (m:Int),.slice A n c] 29)=W0 at *
 go_wp2_with (refine wpList_make_full W0 rfl (.tmp 12) (.tmp 12) 23 rfl (w.heap.size+1) 3 i0 (.int .i64 0) 1 Tryz.underlying23 HI.out HZ0.out HZ1.out .i64 .i64 v.length v.length v.length rfl rfl rfl rfl HB2.out HB3.out hsz0 ?_;intro w1 hown hgr)
 have hb1:=qaL hgr
 have hr1:=Row.of_make hown
 have HS0:Hid (RelAT w p m A n c W0.heap.size v.length r Av v Au u (.int .i64 ((0:Nat):Int)) w1):=⟨0,Nat.zero_le _,rfl,HX.out.grow hb1,by unfold fK;rw [List.take_zero,List.nil_append,HRLN.out];exact hr1,HA.out.keep (hb1.mono (by omega)),HUU.out.keep (hb1.mono (by omega))⟩
 clear hown hgr hb1 hr1 hsz0 HX HA HUU HI HZ0 HZ1 HB2 HB3
 generalize W0.heap.size=go at *
 go_wp2_with fail
 go_loopw [10] (fun v10 wr=>RelAT w p m A n c go v.length r Av v Au u v10 wr) (fun v10 _=>v.length-(intOf v10).toNat)
 case atStart=>exact HS0.out
 case round =>
  obtain ⟨k,hk,rfl,hn⟩:=hrel
  have HN:=Lib.hid hn
  clear hn HS0
  by_cases hlt:k<v.length
  . obtain ⟨b,o,rfl,hcv⟩ := HN.out.cv hlt
    obtain ⟨b',o',rfl,hcu⟩:=HN.out.cu (k:=k) (by rw [<- HLEN.out];exact hlt)
    have HGT:=Lib.hid (HRG.out k hlt)
    have hvq:=HV.out k hlt
    have huq:=HU.out k hlt
    have k0:(0:Int)<=(k:Int):=by omega
    have k1:(k:Int)<(v.length:Int):=by omega
    have f0:=HN.out.2.1.frozen k
    have c0:=HN.out.2.1.cell (j:=k) (by rw [qaB,fK_len r k (by rw [HRLN.out];omega),HRLN.out];exact hlt)
    have HSET:=Lib.hid (fK_set r k (by rw [HRLN.out];exact hlt))
    have HN2:=Lib.hid (HN.out.set k (v.getD k 0))
    have HCV:Hid (∀ W,NRowL w p m A n c go v.length ((fK r k).set k (v.getD k 0)) (some ⟨b,o,none⟩) v (some ⟨b',o',none⟩) u W->W.cell? ⟨b,o+k,none⟩=some (.int .i64 ((v.getD k 0:Nat):Int))/\W.cell? ⟨b',o'+k,none⟩=some (.int .i64 ((u.getD k 0:Nat):Int))):=fun W hW=>⟨hW.cv' hlt,hW.cu' (by rw [<- HLEN.out];exact hlt)⟩
    by_cases h0:u.getD k 0=0
    . rw [h0] at hcu
      rw [if_pos h0] at HGT
      rw [<- HGT.out,HSET.out] at HN2
      have yu:=(HCV.out _ (HN.out.set k (v.getD k 0))).2
      rw [h0] at yu
      rw [<- HGT.out] at yu hcv
      clear HCV h0 hcu
      generalize r.getD k 0=z at *
      go_wp2_with fail
      go_roundw
      case rel=>exact ⟨k+1,by omega,by go_num,HN2.out⟩
      case measure=>simp [intOf];omega
    . have hub : (((u.getD k 0 : Nat) : Int) != 0) = true := by rw [bne_iff_ne];omega
      rw [if_neg h0] at HGT
      have yu:=(HCV.out _ (HN.out.set k (v.getD k 0))).2
      have HFIN:Hid (∀ W,NRowL w p m A n c go v.length ((fK r k).set k (v.getD k 0)) (some ⟨b,o,none⟩) v (some ⟨b',o',none⟩) u W->NRowL w p m A n c go v.length (fK r (k+1)) (some ⟨b,o,none⟩) v (some ⟨b',o',none⟩) u (W.setCell ⟨go,k,none⟩ (.int .i64 ((r.getD k 0:Nat):Int)))):=fun W hW=>by
       have:=hW.set k (r.getD k 0)
       rw [List.set_set,HSET.out] at this
       exact this
      have HMC:Hid (∀ W,NRowL w p m A n c go v.length ((fK r k).set k (v.getD k 0)) (some ⟨b,o,none⟩) v (some ⟨b',o',none⟩) u W->Calls Tryz.prog 91 #[.agg #[.int .i64 p,.int .i64 m,.slice A n c],.int .i64 a,.int .i64 ((u.getD k 0:Nat):Int)] W fun e w'=>e=.returned (.int .i64 ((O.mul a (u.getD k 0):Nat):Int))/\NRowL w p m A n c go v.length ((fK r k).set k (v.getD k 0)) (some ⟨b,o,none⟩) v (some ⟨b',o',none⟩) u w'):=fun W hW =>
       (HMU.out (u.getD k 0) W huq hW.1.1).mono fun e w' ⟨he,hb⟩=>⟨he,hW.grow hb⟩
      have HAC:Hid (∀ W,NRowL w p m A n c go v.length ((fK r k).set k (v.getD k 0)) (some ⟨b,o,none⟩) v (some ⟨b',o',none⟩) u W->Calls Tryz.prog 90 #[.agg #[.int .i64 p,.int .i64 m,.slice A n c],.int .i64 ((v.getD k 0:Nat):Int),.int .i64 ((O.mul a (u.getD k 0):Nat):Int)] W fun e w'=>e=.returned (.int .i64 ((r.getD k 0:Nat):Int))/\NRowL w p m A n c go v.length ((fK r k).set k (v.getD k 0)) (some ⟨b,o,none⟩) v (some ⟨b',o',none⟩) u w'):=fun W hW=>by
       have:=HAD.out (v.getD k 0) (O.mul a (u.getD k 0)) W hvq (HML.out _) hW.1.1
       rw [<- HGT.out] at this
       exact this.mono fun e w' ⟨he,hb⟩=>⟨he,hW.grow hb⟩
      have HCN:Hid (∀ W,NRowL w p m A n c go v.length ((fK r k).set k (v.getD k 0)) (some ⟨b,o,none⟩) v (some ⟨b',o',none⟩) u W->∃ x,W.cell? ⟨go,k,none⟩=some x):=fun W hW=>⟨_,hW.2.1.cell (j:=k) (by rw [qaB,List.length_set,fK_len r k (by rw [HRLN.out];omega),HRLN.out];exact hlt)⟩
      clear h0 hvq huq HGT
      generalize O.mul a (u.getD k 0)=mu at *
      generalize (fK r k).set k (v.getD k 0)=L at *
      generalize r.getD k 0=z at *
      generalize v.getD k 0=xv at *
      generalize u.getD k 0=xu at *
      go_upto_region 7 with fail
      generalize wr.setCell ⟨go,k,none⟩ (.int .i64 (xv:Int))=ws at *
      clear hcv hcu c0 f0 yu
      refine qaN 16 (NRowL w p m A n c go v.length L (some ⟨b,o,none⟩) v (some ⟨b',o',none⟩) u) (by kernel_rfl) (by kernel_rfl) (HN2.out.grow (Below.refl _ _).drew) ?_
      simp only [List.take_succ_cons,List.take_zero,List.drop_succ_cons,List.drop_zero]
      repeat (first
       | (refine qbG rfl 29 (.tmp 4) rfl w.heap.size 0 rfl [.int .i64 (p : Int),.int .i64 (m : Int),.slice A n c] _ (fun W hW => hW.1.range) Tryz.underlying29 rfl fieldSize ?_
          go_simp)
       | (apply qaM rfl
          . intro W hS
            obtain ⟨yv,yu⟩:=HCV.out W hS
            go_simp
            rfl
          go_simp)
       | (apply qaV rfl
          . intro W hS
            go_simp
            exact ⟨rfl,rfl⟩
          . intro W hS
            first
             | exact HMC.out W hS
             | exact HAC.out W hS
          go_simp))
      refine qaJ ?_
      intro w2 hS2
      have HS2:=Lib.hid hS2
      have f0:=hS2.2.1.frozen k
      obtain ⟨x0,c0⟩:=HCN.out w2 hS2
      clear hS2
      go_wp2_with fail
      go_roundw
      case rel=>exact ⟨k+1,by omega,by go_num,HFIN.out _ HS2.out⟩
      case measure=>simp [intOf];omega
  . obtain rfl : k = v.length := by omega
    have HRR:Hid (Row wr w.heap.size go v.length (nz r)):=by
     have:=HN.out.2.1
     have e:fK r v.length=r:=by rw [<- HRLN.out,fK_end]
     rw [e] at this
     exact this.base (by have:=this.lt;omega)
    go_wp2_with fail
    go_ret
    exact ⟨⟨go,rfl,HRR.out⟩,HN.out.1.1⟩
end Go.Proofs.YtlmglaonldlanaaGreat
namespace Go.Proofs.YtlmglaonldlanaaGreat
open Go.RowKit Pln
def Nd (bs:List (Nat × Nat)) (k:Nat):Prop:=∀ i j,i<k->j<k->i≠j->bk bs i≠bk bs j
theorem Nd.step {bs:List (Nat × Nat)} {k g c:Nat} (h:Nd bs k) (hl:bs.length=k) (hg:∀ i,i<k->bk bs i≠g):Nd (bs++[(g,c)]) (k+1):=by
 have hbk:∀ i,i<k->bk (bs++[(g,c)]) i=bk bs i:=fun i hi=>by
  unfold bk
  rw [qbS (by omega)]
 have hbn:bk (bs++[(g,c)]) k=g:=by
  unfold bk
  have:=qbB bs (g,c) (0,0)
  rw [hl] at this
  rw [this]
 intro i j hi hj hij
 by_cases h1:i=k
 . subst h1
   rw [hbn,hbk j (by omega)]
   exact fun e=>hg j (by omega) e.symm
 . rw [hbk i (by omega)]
   by_cases h2:j=k
   . subst h2
     rw [hbn]
     exact hg i (by omega)
   . rw [hbk j (by omega)]
     exact h i j (by omega) (by omega) hij
theorem LGrid.grid {w:World} {B R cR:Nat} {rows:List (List Nat)} {bs:List (Nat × Nat)} (h:LGrid w B (.slice (some ⟨R,0,none⟩) rows.length cR) rows bs rows.length) (hn:Nd bs rows.length):GridAt w B R cR rows bs :=
 ⟨h.len,h.out,h.row,hn⟩
def RelCp (w:World) (rows:List (List Nat)) (v3 v4:Value) (wr:World):Prop :=
 ∃ (k:Nat) (bs:List (Nat × Nat)),v4=.int .i64 k/\LGrid wr w.heap.size v3 rows bs k/\Nd bs k/\Below w.heap.size w wr
theorem rcopy_nil (A:Option Addr) (c:Nat) (w:World):Calls Tryz.prog 147 #[.slice A 0 c] w fun e w'=>e=.returned (.slice none 0 0)/\w=w':=by
 go_enter Tryz.func147,Tryz.ntmps147
 go_wp2_with fail
 go_loop [3,4] (fun v3 v4=>v4=.int .i64 0/\v3=.slice none 0 0) (fun _ _=>0)
 case atStart=>exact ⟨rfl,rfl⟩
 case round =>
  obtain ⟨rfl,rfl⟩:=hrel
  go_wp2_with fail
  go_ret
  exact ⟨rfl,rfl⟩
set_option maxHeartbeats 1000000 in
set_option maxRecDepth 100000 in
theorem rcopy_c (rows:List (List Nat)) (A:Option Addr) (c:Nat) (w:World) (hA:RowsAt w w.heap.size A (nzs rows)) (hr:∀ r∈rows,0<r.length/\r.length<=1000000) (hl:rows.length<=1000000) (hn0:0<rows.length) :
 Calls Tryz.prog 147 #[.slice A rows.length c] w fun e w'=>(∃ R cR bs,e=.returned (.slice (some ⟨R,0,none⟩) rows.length cR)/\GridAt w' w.heap.size R cR rows bs)/\Below w.heap.size w w':=by
 obtain ⟨i0,hi,hz0,hz1,hz2⟩:=qaG infoInts
 obtain ⟨i1,gi,gz0,gz1,gz2⟩:=qaG infoInt
 have HI:=Lib.hid hi
 have HZ0:=Lib.hid hz0
 have HZ1:=Lib.hid hz1
 have HZ2:=Lib.hid hz2
 have GI:=Lib.hid gi
 have GZ0:=Lib.hid gz0
 have GZ1:=Lib.hid gz1
 have GZ2:=Lib.hid gz2
 have HA:=Lib.hid hA
 have HRL:Hid (∀ k,k<rows.length->0<(rows.getD k []).length/\(rows.getD k []).length<=1000000):=fun k hk=>by
  have:rows.getD k []=rows[k]:=by simp [List.getD,hk]
  rw [this]
  exact hr _ (List.getElem_mem hk)
 clear hi hz0 hz1 hz2 gi gz0 gz1 gz2 hA hr
 go_enter Tryz.func147,Tryz.ntmps147
 go_wp2_with fail
 go_loopw [3,4] (fun v3 v4 wr=>RelCp w rows v3 v4 wr) (fun _ v4 _=>rows.length-(intOf v4).toNat)
 case atStart=>exact ⟨0,[],rfl,⟨rfl,Nat.zero_le _,World.ownsRow_nil _ _ _ _,fun i hi=>by omega,fun i hi=>by omega⟩,fun i j hi=>by omega,Below.refl _ _⟩
 case round =>
  obtain ⟨k,bs,rfl,hlg,hnd,hb⟩:=hrel
  obtain ⟨VA,ck,rfl,hVA⟩:=qbO hlg.out
  have HLG:=Lib.hid hlg
  have HND:=Lib.hid hnd
  have HB:=Lib.hid hb
  have HVA:=Lib.hid hVA
  have hkl:=hlg.le
  clear hlg hb hnd hVA
  by_cases hlt:k<rows.length
  . obtain ⟨b,o,Ai,ci,rfl,hbl,hc,hi⟩ := (HA.out.keep HB.out).at_ (i := k) (by rw [qbC];exact hlt)
    rw [qcM] at hc hi
    rw [qaB] at hc
    obtain ⟨hr0,hr1⟩:=HRL.out k hlt
    obtain ⟨b2,o2,rfl,hb2l,_⟩:=hi.at_ (k:=0) (by rw [qaB];exact hr0)
    have hws:=HB.out.size
    have HOE:Hid ((wr.alloc (.cells #[] 3)).ownsRow wr.heap.size 3 1 (.slice (some ⟨wr.heap.size,0,none⟩) 0 0) 0 []):=World.ownsRow_made wr #[] 0 (Nat.le_refl _) (by unfold maxLen;omega) rfl
    have HNEW:Hid (∀ (j:Nat) (u:Value),((nz (rows.getD k [])).map (Value.int .i64))[j]?=some u->(wr.alloc (.cells #[] 3)).cell? ((⟨b2,o2,none⟩:Addr).add j)=some u):=(hi.keep ((Below.refl _ _).alloc hws _)).news
    have HCX:Hid ((wr.alloc (.cells #[] 3)).cell? ⟨b,o+k,none⟩=some (.slice (some ⟨b2,o2,none⟩) (rows.getD k []).length ci)):=by
     show _=_
     rw [World.cell?_alloc_lt _ _ _ (by show b < _;omega)]
     exact hc
    have k0:(0:Int)<=(k:Int):=by omega
    have k1:(k:Int)<(rows.length:Int):=by omega
    have hbw:b<wr.heap.size:=by omega
    have HNL:=Lib.hid (qaB (rows.getD k []))
    clear hi hb2l
    generalize hnn:(rows.getD k []).length=n at *
    have HNN:=Lib.hid hnn
    clear hnn
    go_wp2_with (at_builtin;refine wpList_append_lies _ rfl (.tmp 12) (.tmp 16) 23 rfl wr.heap.size 3 i1 _ 1 8 Tryz.underlying23 GI.out GZ0.out GZ1.out GZ2.out rfl (by decide) (.slice (some ⟨wr.heap.size,0,none⟩) 0 0) 0 [] rfl HOE.out ⟨b2,o2,none⟩ n ci ((nz (rows.getD k [])).map (Value.int .i64)) rfl ?a0 HNEW.out ?a2 hr0 ?a3 ?a4 ?a5 _ rfl ?_)
    case a0=>rw [List.length_map,HNL.out,Nat.mul_one]
    case a2=>intro u hu;obtain ⟨z,_,rfl⟩:=List.mem_map.1 hu;rfl
    case a3=>unfold maxLen;omega
    case a4=>omega
    case a5=>simp
    intro g c' w1 hown hgr hat hglt
    have HB1:Hid (Below wr.heap.size wr w1):=((Below.refl _ _).alloc (Nat.le_refl _) _).grown hgr (by simp) (fun j hj=>by simp [Value.ownBlock] at hj;omega)
    have HROW:Hid (Row w1 wr.heap.size g c' (nz (rows.getD k []))):=by
     show w1.ownsRow _ _ _ _ _ _
     rw [HNL.out,show rows.getD k []=rows[k] by simp [List.getD,hlt]]
     exact hown
    have hws1:=HB1.out.size
    clear hown hgr hat hglt hc
    have HOW:Hid ((w1.alloc (.cells #[.slice (some ⟨g,0,none⟩) n c'] 23)).ownsRow w.heap.size 23 1 (.slice VA k ck) k ((List.range k).map (hdr rows bs))):=by
     have hko:=HLG.out.out.kept (row:=none) ⟨HB1.out.os,HB1.out.tape,HB1.out.output,HB1.out.size,fun j hj _=>HB1.out.block j hj⟩ (by cases (Value.slice VA k ck).ownBlock <;> simp)
     exact World.ownsRow.alloc hko _
    go_wp2_with (at_builtin;refine wpList_append_own_at _ rfl (.tmp 11) (.tmp 18) 30 rfl w.heap.size 23 i0 _ 1 24 Tryz.underlying30 HI.out HZ0.out HZ1.out HZ2.out rfl (by decide) (.slice VA k ck) k ((List.range k).map (hdr rows bs)) rfl HOW.out ⟨w1.heap.size,0,none⟩ 1 1 [.slice (some ⟨g,0,none⟩) n c'] rfl rfl ?c1 ?c2 ?c3 ?c4 ?c5 ?_)
    case c1=>exact World.news_of_block (cs:=#[.slice (some ⟨g,0,none⟩) n c']) (t:=23) (fr:=(0,0)) (heap_alloc_new w1 _)
    case c2=>intro u hu;simp at hu;subst hu;rfl
    case c3=>unfold maxLen;omega
    case c4=>omega
    case c5=>simp;omega
    intro v' w3 hown' hgw3 _ hat
    have HX:Hid (LGrid w3 w.heap.size v' rows (bs++[(g,c')]) (k+1)):=HLG.out.step hlt hws HB1.out HROW.out (by rw [HNN.out];exact hown') hgw3 (by simpa using hat)
    have HNX:Hid (Nd (bs++[(g,c')]) (k+1)):=HND.out.step HLG.out.len (fun i hi=>by have:=(HLG.out.row i hi).lt.2;have:=HROW.out.lt.1;omega)
    have HB3:Hid (Below w.heap.size w w3):=((HB.out.trans (HB1.out.mono hws)).alloc (by omega) _).grown hgw3 (by simp;omega) (fun j hj=>(HLG.out.out.lt j hj).1)
    clear hown' hgw3 hat
    go_wp2_with fail
    go_roundw
    case rel=>exact ⟨k+1,_,by go_num,HX.out,HNX.out,HB3.out⟩
    case measure=>simp [intOf];omega
  . obtain rfl : k = rows.length := by omega
    obtain ⟨R,rfl⟩:=HVA.out hn0
    have HG:=Lib.hid (HLG.out.grid HND.out)
    go_wp2_with fail
    go_ret
    exact ⟨⟨R,ck,bs,rfl,HG.out⟩,HB.out⟩
end Go.Proofs.YtlmglaonldlanaaGreat
