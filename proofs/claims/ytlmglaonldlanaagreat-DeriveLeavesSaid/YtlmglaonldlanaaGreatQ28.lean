/-
 The reference: Combine. The reference: At. enumerate.weight; number.Exp and code.Size at the code of 000 and 111. enumerate.Weights at the code of 000 and 111.
-/
import Derived.Shelf.Abstract
import Derived.ControlIn
import Derived.Test.YtlmglaonldlanaaGreatQ27
import Derived.Test.YtlmglaonldlanaaGreatQ19
namespace Go.Proofs.YtlmglaonldlanaaGreat
open Go.RowKit Pln
set_option maxHeartbeats 1000000 in
set_option maxRecDepth 100000 in
theorem rcombine_c (p m:Nat) (md:List Nat) (A:Option Addr) (n c:Nat) (msg:List Nat) (rows:List (List Nat)) (Am:Option Addr) (cm:Nat) (Ah:Option Addr) (ch cols:Nat) (w:World) (hR:RFld p m md A n w.heap.size w) (hf:∃ l,FT p m md l)
 (hM:IntsAt w w.heap.size Am (nz msg)) (hmq:∀ x∈msg,x<p ^ m) (hA:RowsAt w w.heap.size Ah (nzs rows)) (hgr:Grid (p ^ m) rows.length cols rows) (hl:msg.length=rows.length) (hc:cols<=256) (hn:rows.length<=256) :
 Calls Tryz.prog 23 #[.agg #[.int .i64 p,.int .i64 m,.slice A n c],.slice Am msg.length cm,.slice Ah rows.length ch,.int .i64 cols] w fun e w'=>(∃ g,e=.returned (.slice (some ⟨g,0,none⟩) cols cols)/\Row w' w.heap.size g cols (nz (Dv.combO (refOps p m md) (List.replicate cols 0) msg rows))/\(Dv.combO (refOps p m md) (List.replicate cols 0) msg rows).length=cols/\∀ x∈Dv.combO (refOps p m md) (List.replicate cols 0) msg rows,x<p ^ m)/\Below w.heap.size w w':=by
 have HX:=Lib.hid (qcY w [.int .i64 (p:Int),.int .i64 (m:Int),.slice A n c] 29)
 have HM:=Lib.hid hM
 have HA:=Lib.hid hA
 have HG:=Lib.hid hgr
 have HE:=Lib.hid (qfP hR hf)
 have hq0:0<p ^ m:=Nat.pow_pos (by have:=hR.small.p1;omega)
 have HMQ:Hid (∀ k,k<rows.length->msg.getD k 0<p ^ m):=fun k hk=>by
  have hk2:k<msg.length:=by omega
  have:msg.getD k 0=msg[k]:=by simp [List.getD,hk2]
  rw [this]
  exact hmq _ (List.getElem_mem hk2)
 have HADD:Hid (∀ (a:Nat) (v u:List Nat) (Av Au:Option Addr) (cv cu:Nat) (W:World),a<p ^ m->(∀ x∈v,x<p ^ m)->(∀ x∈u,x<p ^ m)->v.length=cols->u.length=cols->IntsAt W W.heap.size Av (nz v)->IntsAt W W.heap.size Au (nz u)->Below w.heap.size w W ->
  Calls Tryz.prog 42 #[.agg #[.int .i64 p,.int .i64 m,.slice A n c],.slice Av cols cv,.int .i64 a,.slice Au cols cu] W fun e w'=>(∃ g,e=.returned (.slice (some ⟨g,0,none⟩) cols cols)/\Row w' W.heap.size g cols (nz (addRow (refOps p m md) v a u)))/\Below W.heap.size W w'):=fun a v u Av Au cv cu W ha hv hu h1 h2 hA hU hW=>by
  subst h1
  exact raddto_c p m md A n c a v u Av Au cv cu W ((hR.keep hW).more hW.size) ha hv hu h2.symm hA hU (by omega)
 obtain ⟨i0,hi,hz0,hz1,hz2⟩:=qaG infoInt
 have HI:=Lib.hid hi
 have HZ0:=Lib.hid hz0
 have HZ1:=Lib.hid hz1
 have HB2:=Lib.hid (show i0.bytes*cols<=281474976710656 by rw [hz2];omega)
 have HB3:=Lib.hid (show cols<=maxLen by unfold maxLen;omega)
 clear hM hA hgr hR hf hmq hi hz0 hz1 hz2
 generalize refOps p m md=O at *
 generalize p ^ m=q at *
 go_enter Tryz.func23,Tryz.ntmps23
 go_upto_region 1 with fail
 have hsz0:w.heap.size<=(w.alloc (.cells #[.int .i64 (p:Int),.int .i64 (m:Int),.slice A n c] 29)).heap.size:=by simp
 generalize w.alloc (.cells #[.int .i64 (p:Int),.int .i64 (m:Int),.slice A n c] 29)=W0 at *
 go_wp2_with (refine wpList_make_full W0 rfl (.tmp 11) (.tmp 11) 23 rfl w.heap.size 3 i0 (.int .i64 0) 1 Tryz.underlying23 HI.out HZ0.out HZ1.out .i64 .i64 cols cols cols rfl rfl rfl rfl HB2.out HB3.out hsz0 ?_;intro w1 hown hgr)
 have hb1:=qaL hgr
 have hr1:=Row.of_make hown
 have HS0:Hid (RelCb w p m A n c O q msg rows cols (.slice (some ⟨W0.heap.size,0,none⟩) cols cols) (.int .i64 ((0:Nat):Int)) w1):=⟨0,_,List.replicate cols 0,Nat.zero_le _,rfl,rfl,HX.out.grow hb1,hr1,by simp,fun x hx=>by rw [List.mem_replicate] at hx;omega,rfl⟩
 clear hown hgr hb1 hr1 hsz0 HX HI HZ0 HZ1 HB2 HB3
 generalize W0.heap.size=go at *
 have hml:=hl
 clear hl
 have hlq:((msg.length:Nat):Int)=(rows.length:Int):=by omega
 go_wp2_with fail
 go_loopw [9,10] (fun v9 v10 wr=>RelCb w p m A n c O q msg rows cols v9 v10 wr) (fun _ v10 _=>rows.length-(intOf v10).toNat)
 case atStart=>exact HS0.out
 case round =>
  obtain ⟨k,g,u,hk,rfl,rfl,hx,hrow,hul,huq,hcb⟩:=hrel
  have HX:=Lib.hid hx
  have HR:=Lib.hid hrow
  have HUQ:=Lib.hid huq
  have HCB:=Lib.hid hcb
  clear hx hrow huq hcb HS0
  by_cases hlt:k<rows.length
  . have k0 : (0 : Int) <= (k : Int) := by omega
    have k1:(k:Int)<(rows.length:Int):=by omega
    have k2:(k:Int)<(msg.length:Int):=by omega
    have hw1:IntKind.i64.wrap ((k:Int)+1)=(k:Int)+1:=IntWalk.i64_in _ (by omega)
    obtain ⟨bm,om,rfl,hbm,hcm⟩:=(HM.out.keep HX.out.below).at_ (k:=k) (by rw [qaB];omega)
    obtain ⟨bh,oh,Ai,ci,rfl,hbh,hch,hih⟩:=(HA.out.keep HX.out.below).at_ (i:=k) (by rw [qbC];exact hlt)
    rw [qaF] at hcm
    rw [qcM] at hch hih
    obtain ⟨hrl,hrq⟩:=HG.out.row hlt
    rw [qaB,hrl] at hch
    have HST:=Lib.hid (combO_step (by omega) hlt HCB.out)
    have hxq:=HMQ.out k hlt
    by_cases hx0:msg.getD k 0=0
    . rw [if_pos hx0] at HST
      rw [hx0] at hcm
      clear hx0 hxq hrq hrl hih
      go_wp2_with fail
      go_roundw
      case rel=>exact ⟨k+1,g,u,by omega,by go_num,rfl,HX.out,HR.out,hul,HUQ.out,HST.out⟩
      case measure=>simp [intOf];omega
    . rw [if_neg hx0] at HST
      have hxb:(((msg.getD k 0:Nat):Int) != 0)=true:=by rw [bne_iff_ne];omega
      have HN:Hid (∀ x∈addRow O u (msg.getD k 0) (rows.getD k []),x<q):=(addRow_eq HE.out hxq HUQ.out hrq).2
      have HNL:Hid ((addRow O u (msg.getD k 0) (rows.getD k [])).length=cols):=by show _=_;rw [qcR _ _ _ _ (by omega)];exact hul
      have HAC:Hid (∀ W,LSc w p m A n c bm om bh oh k (msg.getD k 0) (.slice Ai cols ci) W->Row W w.heap.size g cols (nz u)->IntsAt W W.heap.size Ai (nz (rows.getD k []))->Calls Tryz.prog 42 #[.agg #[.int .i64 p,.int .i64 m,.slice A n c],.slice (some ⟨g,0,none⟩) cols cols,.int .i64 ((msg.getD k 0:Nat):Int),.slice Ai cols ci] W fun e w'=>(∃ g,e=.returned (.slice (some ⟨g,0,none⟩) cols cols)/\Row w' W.heap.size g cols (nz (addRow O u (msg.getD k 0) (rows.getD k []))))/\Below W.heap.size W w'):=fun W hW hr hi2 =>
       HADD.out _ u _ _ _ cols ci W hxq HUQ.out hrq hul hrl (row_ints hr) hi2 hW.1.below
      have HS:Hid (LSc w p m A n c bm om bh oh k (msg.getD k 0) (.slice Ai cols ci) wr.drew):=⟨HX.out.grow (Below.refl _ _).drew,hcm,hch⟩
      have HI2:Hid (IntsAt wr.drew wr.drew.heap.size Ai (nz (rows.getD k []))):=(hih.more HX.out.below.size).grow (Nat.le_refl _) (Below.refl _ wr).drew
      have HR2:=Lib.hid (HR.out.below (Below.refl _ wr).drew HR.out.lt.2)
      clear hx0 hxq hrq hrl hih HADD HE HMQ
      generalize addRow O u (msg.getD k 0) (rows.getD k [])=u2 at *
      generalize rows.getD k []=r at *
      generalize msg.getD k 0=x at *
      go_upto_region 6 with fail
      refine qaX 11 11 (LSc w p m A n c bm om bh oh k x (.slice Ai cols ci)) [(0,0),(1,1),(1,2),(1,3),(1,4),(0,5),(1,6),(1,7),(1,8),(0,9),(2,10)] default (by kernel_rfl) (by kernel_rfl) (fun _ _ d _ _ h=>by cases d <;> exact h) HS.out ?_
      generalize wr.drew=Wd at *
      simp only [List.map_cons,List.map_nil,List.getD_cons_zero,List.getD_cons_succ]
      refine qbV rfl 29 (.tmp 4) rfl w.heap.size 0 rfl [.int .i64 (p:Int),.int .i64 (m:Int),.slice A n c] _ (fun W hW=>hW.1.range) Tryz.underlying29 rfl fieldSize ?_
      go_simp
      iterate 4
       apply qaR rfl
       . intro W
         go_simp
         rfl
       go_simp
      apply qaZ rfl
      . intro W hW
        have z0:=hW.2.1
        go_simp
        rfl
      go_simp
      iterate 3
       apply qaR rfl
       . intro W
         go_simp
         rfl
       go_simp
      apply qaZ rfl
      . intro W hW
        have z0:=hW.2.2
        go_simp
        rfl
      go_simp
      apply qcF rfl
      . go_simp
        exact ⟨rfl,rfl⟩
      with_reducible refine (HAC.out Wd HS.out HR2.out HI2.out).mono ?_
      rintro e w2 ⟨⟨g2,rfl,hr2⟩,hb2⟩
      have HS2:=Lib.hid (HS.out.keep hb2)
      have HRR:=Lib.hid (hr2.base (Nat.le_trans HS.out.1.below.size hr2.lt.1))
      refine ⟨_,rfl,HS2.out,?_⟩
      go_simp
      refine qbZ ?_
      show wpList _ _ _ _ _ _
      go_simp
      clear hb2 hr2 HS HR2 HI2 HAC
      go_wp2_with fail
      go_roundw
      case rel=>exact ⟨k+1,g2,u2,by omega,by go_num,rfl,HS2.out.1,HRR.out,HNL.out,HN.out,HST.out⟩
      case measure=>simp [intOf];omega
  . obtain rfl : k = rows.length := by omega
    have HFIN:Hid (u=Dv.combO O (List.replicate cols 0) msg rows):=by
     have:=HCB.out
     rw [List.drop_eq_nil_of_le (Nat.le_refl _)] at this
     rw [<- this]
     show u=Dv.combO O u _ []
     cases List.drop rows.length msg <;> rfl
    go_wp2_with fail
    go_ret
    exact ⟨⟨g,rfl,by rw [<- HFIN.out];exact HR.out,by rw [<- HFIN.out];exact hul,by rw [<- HFIN.out];exact HUQ.out⟩,HX.out.below⟩
end Go.Proofs.YtlmglaonldlanaaGreat
namespace Go.Proofs.YtlmglaonldlanaaGreat
open Go.RowKit Pln
structure RCode (p m:Nat) (md:List Nat) (A:Option Addr) (n cols:Nat) (rows:List (List Nat)) (Ah:Option Addr) (w:World):Prop where
 fld:RFld p m md A n w.heap.size w
 ft:∃ l,FT p m md l
 at_:RowsAt w w.heap.size Ah (nzs rows)
 grid:Grid (p ^ m) rows.length cols rows
 n1:1<=cols
 n2:cols<=64
 len:rows.length<=256
def cwO (p m:Nat) (md:List Nat) (cols:Nat) (rows:List (List Nat)) (msg:List Nat):List Nat:=Dv.combO (refOps p m md) (List.replicate cols 0) msg rows
section
variable {p m:Nat} {md:List Nat} {A:Option Addr} {n cols:Nat} {rows:List (List Nat)} {Ah:Option Addr} {w W:World}
theorem RCode.lift (h:RCode p m md A n cols rows Ah w) (hb:Below w.heap.size w W):RCode p m md A n cols rows Ah W :=
 ⟨(h.fld.keep hb).more hb.size,h.ft,(h.at_.keep hb).more hb.size,h.grid,h.n1,h.n2,h.len⟩
theorem RCode.q2 (h:RCode p m md A n cols rows Ah w):2<=p ^ m/\p ^ m<=256 :=
 ⟨Nat.le_trans h.fld.small.p1 (Nat.le_self_pow (by have:=h.fld.small.m1;omega) _),h.fld.small.q⟩
theorem RCode.comb (h:RCode p m md A n cols rows Ah w) (msg:List Nat) (Am:Option Addr) (c cm ch:Nat) (hM:IntsAt w w.heap.size Am (nz msg)) (hmq:∀ x∈msg,x<p ^ m) (hl:msg.length=rows.length) :
 Calls Tryz.prog 23 #[.agg #[.int .i64 p,.int .i64 m,.slice A n c],.slice Am rows.length cm,.slice Ah rows.length ch,.int .i64 cols] w fun e w'=>(∃ g,e=.returned (.slice (some ⟨g,0,none⟩) cols cols)/\Row w' w.heap.size g cols (nz (cwO p m md cols rows msg))/\(cwO p m md cols rows msg).length=cols/\∀ x∈cwO p m md cols rows msg,x<p ^ m)/\Below w.heap.size w w':=by
 have hc:=h.n2
 have:=rcombine_c p m md A n c msg rows Am cm Ah ch cols w h.fld h.ft hM hmq h.at_ h.grid hl (by omega) h.len
 rw [hl] at this
 exact this
end
section
variable {w:World} {cs:List Value} {t:TypeId} {W:World}
theorem BX.wrote (h:BX w cs t W) {g k:Nat} (hg:w.heap.size<g) (u:Value):BX w cs t (W.setCell ⟨g,k,none⟩ u) :=
 ⟨(Below.heap_setCell W ⟨g,k,none⟩ u w.heap.size (by show w.heap.size≠g;omega)).trans h.1,h.2.1.setCell (p:=⟨g,k,none⟩) (Nat.le_of_lt hg) u,by simpa using h.2.2⟩
theorem BX.field {a b c:Value} {l:List Value} (h:BX w (a :: b :: c :: l) t W):W.rangeAt w.heap.size 0 [a,b,c]:=fun j u hu=>by
 match j,hu with
 | 0,hu=>exact h.range 0 u hu
 | 1,hu=>exact h.range 1 u hu
 | 2,hu=>exact h.range 2 u hu
 | j+3,hu=>simp at hu
end
end Go.Proofs.YtlmglaonldlanaaGreat
namespace Go.Proofs.YtlmglaonldlanaaGreat
open Go.RowKit Pln
set_option maxHeartbeats 1000000 in
set_option maxRecDepth 100000 in
theorem eweight_c (v:List Nat) (A:Option Addr) (c:Nat) (w:World) (hA:IntsAt w w.heap.size A (nz v)) (hl:v.length<=1000) :
 Calls Tryz.prog 117 #[.slice A v.length c] w fun e w'=>e=.returned (.int .i64 ((Dv.wt v:Nat):Int))/\w=w':=by
 have HA:=Lib.hid hA
 clear hA
 go_enter Tryz.func117,Tryz.ntmps117
 go_wp2_with fail
 go_loopw [3,8] (fun v3 v8 wr=>RelWg v w v3 v8 wr) (fun _ v8 _=>v.length-(intOf v8).toNat)
 case atStart=>exact ⟨0,by omega,rfl,rfl,rfl⟩
 case round =>
  obtain ⟨k,hk,rfl,rfl,rfl⟩:=hrel
  have hwl:Dv.wt (v.take k)<=1000:=Nat.le_trans (rwt_le _) (by rw [List.length_take];omega)
  by_cases hlt:k<v.length
  . obtain ⟨b,o,rfl,hb,hc⟩ := HA.out.at_ (k := k) (by rw [qaB];exact hlt)
    rw [qaF] at hc
    have HWT:=Lib.hid (rwt_take hlt)
    have k0:(0:Int)<=(k:Int):=by omega
    have k1:(k:Int)<(v.length:Int):=by omega
    have hw1:IntKind.i64.wrap ((k:Int)+1)=(k:Int)+1:=IntWalk.i64_in _ (by omega)
    have hw2:IntKind.i64.wrap (((Dv.wt (v.take k):Nat):Int)+1)=((Dv.wt (v.take k):Nat):Int)+1:=IntWalk.i64_in _ (by omega)
    by_cases hx:v.getD k 0=0
    . rw [if_pos hx] at HWT
      rw [hx] at hc
      clear hx
      go_wp2_with fail
      go_roundw
      case rel=>exact ⟨k+1,by omega,by go_num,by rw [HWT.out];rfl,rfl⟩
      case measure=>simp [intOf];omega
    . rw [if_neg hx] at HWT
      have hx1:(((v.getD k 0:Nat):Int) != 0)=true:=by simpa using hx
      generalize v.getD k 0=x at *
      go_wp2_with fail
      go_roundw
      case rel=>exact ⟨k+1,by omega,by go_num,by rw [HWT.out];go_num,rfl⟩
      case measure=>simp [intOf];omega
  . obtain rfl : k = v.length := by omega
    rw [List.take_length]
    go_wp2_with fail
    go_ret
    exact ⟨rfl,rfl⟩
def RelE2 (v1 v8:Value):Prop:=v1=.int .i64 1/\v8=.int .i64 1\/v1=.int .i64 0/\v8=.int .i64 2
set_option maxHeartbeats 1000000 in
set_option maxRecDepth 100000 in
theorem exp_2 (w:World):Calls Tryz.prog 166 #[.int .i64 2,.int .i64 1,.int .i64 65536] w fun e w'=>e=.returned (.tuple #[.int .i64 2,.int .i64 0])/\w=w':=by
 go_enter Tryz.func166,Tryz.ntmps166
 go_wp2_with fail
 go_loop [1,8] (fun v1 v8=>RelE2 v1 v8) (fun v1 _=>(intOf v1).toNat)
 case atStart=>exact .inl ⟨rfl,rfl⟩
 case round =>
  rcases hrel with ⟨rfl,rfl⟩ | ⟨rfl,rfl⟩
  . go_wp2_with fail
    go_round
    case rel=>exact .inr ⟨rfl,rfl⟩
    case measure=>simp [intOf]
  . go_wp2_with fail
    go_ret2
    exact ⟨rfl,rfl⟩
set_option maxHeartbeats 2000000 in
set_option maxRecDepth 100000 in
theorem esize_c (G:Nat) (w:World) (hG:RowsAt w w.heap.size (some ⟨G,0,none⟩) [[1,1,1]]) :
 Calls Tryz.prog 115 #[.agg #[.int .i64 2,.int .i64 1,.slice none 0 0,.int .i64 3,.slice (some ⟨G,0,none⟩) 1 1]] w fun e w'=>e=.returned (.tuple #[.int .i64 2,.int .i64 0])/\Below w.heap.size w w':=by
 have HX:=Lib.hid (qcY w [.int .i64 2,.int .i64 1,.slice none 0 0,.int .i64 3,.slice (some ⟨G,0,none⟩) 1 1] 32)
 have HG:=Lib.hid hG
 clear hG
 go_enter Tryz.func115,Tryz.ntmps115
 go_upto_region 1 with fail
 generalize w.alloc (.cells #[.int .i64 2,.int .i64 1,.slice none 0 0,.int .i64 3,.slice (some ⟨G,0,none⟩) 1 1] 32)=W0 at *
 have HRG:=Lib.hid HX.out.field
 have HN:Hid (Calls Tryz.prog 72 #[.agg #[.int .i64 2,.int .i64 1,.slice none 0 0]] W0 fun e w'=>(∃ gb,e=.returned (.tuple #[.pointer (some ⟨gb,0,none⟩),.int .i64 0])/\GFUp w' W0.heap.size gb 2 1 lT (logL lT (2 ^ 1)))/\Below W0.heap.size W0 w'):=(fnew_up 2 1 [] none 0 W0 (fun h=>absurd h (by simp)) (by kernel_rfl))
 go_wp2_with (refine wpList_load_mid rfl 29 (.tmp 8) rfl w.heap.size 0 rfl [.int .i64 2,.int .i64 1,.slice none 0 0] _ HRG.out Tryz.underlying29 rfl fieldSize ?_)
 (with_reducible refine HN.out.mono ?_)
 rintro e w1 ⟨⟨gb,rfl,hg⟩,hb1⟩
 have HX1:=Lib.hid (HX.out.grow hb1)
 have HGU:=Lib.hid hg.at_
 have hgl:=hg.2.1
 clear hb1 hg HN HX HRG
 clear W0
 have HRG:=Lib.hid HX1.out.range
 have HCK:Hid (Calls Tryz.prog 27 #[.agg #[.int .i64 2,.int .i64 1,.slice none 0 0,.int .i64 3,.slice (some ⟨G,0,none⟩) 1 1]] w1 fun e w'=>e=.returned (.int .i64 (codeZ 2 1 [] 3 [[1,1,1]]))/\Below w1.heap.size w1 w'):=(qcS 2 1 [] none 0 3 [[1,1,1]] (some ⟨G,0,none⟩) 1 w1 (fun h=>absurd h (by simp)) (by simp) ((HG.out.keep HX1.out.below).more HX1.out.below.size) (by simp))
 rw [codeZ_rep] at HCK
 go_upto_region 2 with fail
 go_wp2_with (refine wpList_load_mid rfl 32 (.tmp 1) rfl w.heap.size 0 rfl [.int .i64 2,.int .i64 1,.slice none 0 0,.int .i64 3,.slice (some ⟨G,0,none⟩) 1 1] _ HRG.out Tryz.underlying32 rfl codeSize ?_)
 (with_reducible refine HCK.out.mono ?_)
 rintro e w2 ⟨rfl,hb2⟩
 have HX2:=Lib.hid (HX1.out.grow hb2)
 have HG2:=Lib.hid ((HGU.out.keep hb2).more hb2.size)
 clear hb2 HCK HX1 HGU HRG
 clear hgl
 clear w1
 go_upto_region 7 with fail
 have HSD:Hid (BX w [.int .i64 2,.int .i64 1,.slice none 0 0,.int .i64 3,.slice (some ⟨G,0,none⟩) 1 1] 32 w2.drew):=HX2.out.grow (Below.refl _ _).drew
 have HO:=Lib.hid (gorder_e gb w2.drew.heap.size 2 1 lT (logL lT (2 ^ 1)) w2.drew (HG2.out.keep (Below.refl _ w2).drew))
 refine qaX 8 8 (BX w [.int .i64 2,.int .i64 1,.slice none 0 0,.int .i64 3,.slice (some ⟨G,0,none⟩) 1 1] 32) [(1,0),(1,2),(0,3),(1,4),(2,1),(2,5),(1,6),(1,7)] default (by kernel_rfl) (by kernel_rfl) (fun _ _ d _ _ h=>by cases d <;> exact h) HSD.out ?_
 clear HX2 HG2
 generalize w2.drew=Wd at *
 simp only [List.map_cons,List.map_nil,List.getD_cons_zero,List.getD_cons_succ]
 iterate 2
  apply qaR rfl
  . intro V
    go_simp
    rfl
  go_simp
 apply qaZ rfl
 . intro V hV
   have y:V.cell? ⟨w.heap.size,4,none⟩=some (.slice (some ⟨G,0,none⟩) 1 1):=hV.cell rfl
   go_simp
   rfl
 go_simp
 apply qaR rfl
 . intro V
   go_simp
   rfl
 go_simp
 apply qcF rfl
 . go_simp
   exact ⟨rfl,rfl⟩
 with_reducible refine HO.out.mono ?_
 rintro e w3 ⟨rfl,rfl⟩
 refine ⟨_,rfl,HSD.out,?_⟩
 go_simp
 apply qcF rfl
 . go_simp
   exact ⟨rfl,rfl⟩
 with_reducible refine (exp_2 Wd).mono ?_
 rintro e w3 ⟨rfl,rfl⟩
 refine ⟨_,rfl,HSD.out,?_⟩
 go_simp
 iterate 2
  apply qaR rfl
  . intro V
    go_simp
    rfl
  go_simp
 refine qbZ ?_
 show wpList _ _ _ _ _ _
 clear HO
 go_wp2_with fail
 go_ret2
 exact ⟨rfl,HSD.out.below⟩
set_option maxRecDepth 100000 in
theorem ewalk_c (cs:List Value) (w:World) :
 Calls Tryz.prog 116 #[.agg cs.toArray] w fun e w'=>e=.returned (.func (.func 167) #[] #[.pointer (some ⟨w.heap.size,0,none⟩)])/\w'=w.alloc (.cells cs.toArray 32):=by
 go_enter Tryz.func116,Tryz.ntmps116
 go_wp2_with fail
 go_ret
 exact ⟨rfl,rfl⟩
end Go.Proofs.YtlmglaonldlanaaGreat
namespace Go.Proofs.YtlmglaonldlanaaGreat
open Go.RowKit Pln
def cnts:Nat->List Nat
 | 0=>[0,0,0,0]
 | 1=>[1,0,0,0]
 | _=>[1,0,0,1]
theorem cnts_len:∀ k,k<=2->(cnts k).length=4
 | 0,_=>rfl
 | 1,_=>rfl
 | 2,_=>rfl
theorem cnts_step {k:Nat} (hk:k<2):Dv.wt (List.replicate 3 k)<4/\(cnts k).getD (Dv.wt (List.replicate 3 k)) 0=0/\(cnts k).set (Dv.wt (List.replicate 3 k)) 1=cnts (k+1):=by
 match k,hk with
 | 0,_=>exact ⟨by decide,rfl,rfl⟩
 | 1,_=>exact ⟨by decide,rfl,rfl⟩
theorem qcC {B l:Nat} {a W:World} (h:Below B a W) (hl:B<=l) (o:Obj):Below B a (W.putObj l o) :=
 ⟨h.os,h.tape,h.output,by simpa using h.size,fun k hk=>(World.putObj_heap_other (by omega)).trans (h.block k hk)⟩
structure WtI (w:World) (Bo bo k:Nat) (W:World):Prop where
 box:W.cell? ⟨Bo,0,none⟩=some (.slice (some ⟨bo,0,none⟩) 4 4)
 row:Row W w.heap.size bo 4 (nz (cnts k))
 low:Below w.heap.size w W
theorem WtI.keep {w:World} {Bo bo k B:Nat} {W W':World} (h:WtI w Bo bo k W) (hb:Below B W W') (h3:Bo<B) (h4:bo<B) (h5:w.heap.size<=B):WtI w Bo bo k W' :=
 ⟨(hb.cell (p:=⟨Bo,0,none⟩) h3).trans h.box,h.row.below hb h4,h.low.trans (hb.mono h5)⟩
def RdPost (I:Nat->World->Prop) (bo k:Nat) (W2:World) (e:Exit) (_:Act) (W3:World):Prop:=e=.normal/\I (k+1) W3/\W2.heap.size<=W3.heap.size/\∀ b,b<W2.heap.size->b≠bo->W3.heap[b]?=W2.heap[b]?
theorem range_two (w4:World) {g:Operand} {ps:Array Tmp} {assign body:Code} {Q:Exit->Act->World->Prop} {a:Act} {lb:Array Value} (hg:a.eval g=.func (.func 167) #[] lb) (hps:ps.size=2) (I:Nat->World->Prop) (bo:Nat) (hbo:bo<w4.heap.size)
 (hI:∀ k A B,I k A->Below w4.heap.size A B->I k B) (h0:I 0 w4)
 (hseq:∀ (l:Nat) (J:Nat->World->Prop) (W:World),Below w4.heap.size w4 W->l<W.heap.size->w4.heap.size<=l->(∀ j A B,J j A->Below W.heap.size A B->J j B)->RndsOk l bo W.heap.size J->J 0 W->Calls Tryz.prog 167 (#[.func (.yield l) #[] #[]]++lb) W fun e w'=>(∃ v,e=.returned v)/\J 2 w')
 (a₁:Nat->Nat->Nat->Act) (hassign:∀ (l k g c:Nat) (W:World) (K:Act->World->Prop),K (a₁ k g c) W->assign.wpIn (Fence.wide.inRound l) 0 Tryz.prog (Exit.then K (fun _ _ _=>False)) { tmps:=(ps.zip #[.int .i64 (k:Int),.slice (some ⟨g,0,none⟩) 3 c]).foldl (fun t (p,v)=>t.setIfInBounds p v) a.tmps,defers:=[] } W)
 (hbody:∀ (l k g c:Nat) (W2:World),k<2->I k W2->Row W2 w4.heap.size g c (nz (List.replicate 3 k))->body.wpIn (Fence.wide.inRound l) 0 Tryz.prog (RdPost I bo k W2) (a₁ k g c) W2)
 (hdone:∀ (D:Nat) (W:World),I 2 W->w4.heap.size<=D->W.heap[D]?=some (.deferred (some []))->Q .normal { a with defers:={ target:=.collected D,args:=#[] } :: a.defers } W) :
 (Code.rangeFunc g ps assign body).wpIn Fence.wide 0 Tryz.prog Q a w4:=by
 refine wpIn_rangeFunc ?_
 intro fn hfn
 obtain ⟨rec,hrec⟩:∃ rec:LoopState->Option Code->Loop,rec=fun st pe=>{ state:=st,pending:=pe,fn,tmps:=a.tmps,params:=ps,assign,body,defers:=w4.heap.size }:=⟨_,rfl⟩
 obtain ⟨W1,hW1⟩:∃ W1,(w4.alloc (.deferred (some []))).alloc (.loop (rec .ready none))=W1:=⟨_,rfl⟩
 have hL1:W1.heap[w4.heap.size+1]?=some (.loop (rec .ready none)):=by
  rw [<- hW1];have:=World.alloc_heap_new (w4.alloc (.deferred (some []))) (.loop (rec .ready none));rwa [World.size_alloc] at this
 have hK1:W1.heap[w4.heap.size]?=some (.deferred (some [])):=by
  rw [<- hW1];exact (Below.heap_alloc _ _ _ (by simp)).trans (World.alloc_heap_new w4 _)
 have hb1:Below w4.heap.size w4 W1:=by rw [<- hW1];exact ((Below.refl _ w4).alloc (Nat.le_refl _) _).alloc (by simp) _
 have hz1:W1.heap.size=w4.heap.size+2:=by rw [<- hW1];simp
 have eg:Enters Tryz.prog 167:=enters_of Tryz.func167 (by kernel_rfl) rfl
 refine ⟨w4.heap.size+1,[{ target:=.collected w4.heap.size,args:=#[] }],W1,{ target:=.fn (.func 167) lb,args:=#[.func (.yield (w4.heap.size+1)) #[] #[]] },W1,167,
  #[.func (.yield (w4.heap.size+1)) #[] #[]]++lb,W1,?_,?_,fun _ _=>trivial,?_,fun h=>(by cases h),?_⟩
 . rw [<- hW1,hrec];exact run_enterLoop_outer _ _ _ _ _
 . simp only [resolve,hg]
   simp [go_sem]
 . simp [invoke,go_sem,eg _ _]
 . refine callsIn_wide.2 ((hseq (w4.heap.size + 1) (fun k W => I k W /\ W.heap[w4.heap.size + 1]? = some (.loop (rec .ready none)) /\ W.heap[w4.heap.size]? = some (.deferred (some []))) W1 hb1 (by omega) (by omega)
    (fun j A B ⟨h1,h2,h3⟩ hb=>⟨hI j A B h1 (hb.mono (by omega)),(hb.block _ (by omega)).trans h2,(hb.block _ (by omega)).trans h3⟩) ?_ ⟨hI 0 w4 W1 h0 hb1,hL1,hK1⟩).mono ?_)
   . rintro k gg c W hk ⟨hi,hl,hd⟩ hsz hrow
     have hlt:w4.heap.size+1<W.heap.size:=(Array.getElem?_eq_some_iff.1 hl).1
     have hy:=run_yield (P:=Tryz.prog) (args:=#[.int .i64 (k:Int),.slice (some ⟨gg,0,none⟩) 3 c]) hl (by rw [hrec];exact hps.symm)
     rw [hrec] at hy
     refine ⟨fn,_,assign,body,hy,roundIn_of_wpIn hfn (hassign (w4.heap.size+1) k gg c W _ ?_)⟩
     clear hy
     . have hb := hbody (w4.heap.size + 1) k gg c
       refine ⟨_,run_beginRound hl (by rw [hrec]),?_⟩
       have hl2:(W.putObj (w4.heap.size+1) (.loop { rec .ready none with state:=.busy })).heap[w4.heap.size+1]?=some (.loop { rec .ready none with state:=.busy }):=World.putObj_heap_same hlt
       have hbp:Below (w4.heap.size+1) W (W.putObj (w4.heap.size+1) (.loop { rec .ready none with state:=.busy })):=qcC (Below.refl _ _) (Nat.le_refl _) _
       have hgl:=hrow.lt
       have hrow2:Row (W.putObj (w4.heap.size+1) (.loop { rec .ready none with state:=.busy })) w4.heap.size gg c (nz (List.replicate 3 k)):=by
        have h1:Row W w4.heap.size gg c (nz (List.replicate 3 k)):=hrow.base (by omega)
        exact World.ownsRow.kept h1 (row:=some (w4.heap.size+1)) ⟨rfl,rfl,rfl,by simp,fun b _ hne=>World.putObj_heap_other (fun e=>hne (congrArg some e))⟩ (.inr (fun e=>by simp [Value.ownBlock] at e;omega))
       refine Code.wpIn_mono ?_ (hb _ hk (hI k _ _ hi (hbp.mono (by omega))) hrow2)
       rintro e a3 W3 ⟨rfl,hi3,hs3,hsm⟩
       have hl3:W3.heap[w4.heap.size+1]?=some (.loop { rec .ready none with state:=.busy }):=(hsm _ (by simpa using hlt) (by omega)).trans hl2
       refine ⟨_,_,run_endRound none hl3,rfl,⟨hI _ _ _ hi3 (qcC (Below.refl _ _) (by omega) _),?_,?_⟩,?_,?_⟩
       . refine (World.putObj_heap_same (Array.getElem?_eq_some_iff.1 hl3).1).trans ?_
         rw [hrec]
         rfl
       . refine (World.putObj_heap_other (by omega)).trans ((hsm _ (by simp;omega) (by omega)).trans ((World.putObj_heap_other (by omega)).trans hd))
       . simpa using hs3
       . intro b hb1 hb2 hb3
         exact (World.putObj_heap_other hb2).trans ((hsm b (by simpa using hb1) hb3).trans (World.putObj_heap_other hb2))
   . rintro e W2 ⟨⟨v,rfl⟩,hi,hl,hd⟩
     have hend:=run_endLoop (P:=Tryz.prog) hl (by rw [hrec];simp)
     have hp:(rec .ready none).pending=none:=by rw [hrec]
     rw [hp] at hend
     exact ⟨none,_,hend,hdone w4.heap.size _ (hI _ _ _ hi (qcC (l:=w4.heap.size+1) (Below.refl _ _) (by omega) _)) (Nat.le_refl _) ((World.putObj_heap_other (by omega)).trans hd)⟩
def WtS (w:World) (Bo bo g k:Nat) (V:World):Prop:=V.cell? ⟨Bo,0,none⟩=some (.slice (some ⟨bo,0,none⟩) 4 4)/\Row V w.heap.size bo 4 (nz (cnts k))/\IntsAt V V.heap.size (some ⟨g,0,none⟩) (nz (List.replicate 3 k))
def WtsPost (w:World) (e:Ending) (w':World):Prop:=∃ g:Nat,e=.returned (.tuple #[.slice (some ⟨g,0,none⟩) 4 4,.int .i64 0])/\IntsAt w' w'.heap.size (some ⟨g,0,none⟩) (nz [1,0,0,1])/\Below w.heap.size w w'
set_option maxHeartbeats 4000000 in
set_option maxRecDepth 100000 in
theorem eweights_c (G R ro cr:Nat) (w:World) (hG1:w.cell? ⟨G,0,none⟩=some (.slice (some ⟨R,ro,none⟩) 3 cr)) (hG2:∀ j,j<3->w.cell? ⟨R,ro+j,none⟩=some (.int .i64 1)) :
 Calls Tryz.prog 54 #[.agg #[.int .i64 2,.int .i64 1,.slice none 0 0,.int .i64 3,.slice (some ⟨G,0,none⟩) 1 1]] w (WtsPost w):=by
 have HG:Hid (RowsAt w w.heap.size (some ⟨G,0,none⟩) [[1,1,1]]):=by
  refine fun _=>⟨G,0,rfl,World.block_lt_of_cell? w _ hG1,fun i hi=>?_⟩
  obtain rfl:i=0:=by simpa using hi
  refine ⟨some ⟨R,ro,none⟩,cr,hG1,fun _=>⟨R,ro,rfl,World.block_lt_of_cell? w _ (hG2 0 (by omega)),fun j hj=>?_⟩⟩
  have hj3:j<3:=hj
  rw [hG2 j hj3]
  match j,hj3 with
  | 0,_=>rfl
  | 1,_=>rfl
  | 2,_=>rfl
 have HG1:=Lib.hid hG1
 have HG2:=Lib.hid hG2
 have HX:=Lib.hid (qcY w [.int .i64 2,.int .i64 1,.slice none 0 0,.int .i64 3,.slice (some ⟨G,0,none⟩) 1 1] 32)
 obtain ⟨i0,hii,hz0,hz1,hz2⟩:=qaG infoInt
 have HI:=Lib.hid hii
 have HZ0:=Lib.hid hz0
 have HZ1:=Lib.hid hz1
 have HB2:=Lib.hid (show i0.bytes*4<=281474976710656 by rw [hz2];omega)
 clear hG1 hG2 hii hz0 hz1 hz2
 refine (callsIn_wide (n:=0)).1 (callsIn_of_wp_marks Tryz.func54 rfl trivial (wpIn_wide.2 ?_))
 simp only [Tryz.ntmps54,List.size_toArray,List.length_cons,List.length_nil,Nat.reduceAdd,Nat.reduceSub,Array.replicate_succ,Array.replicate_zero,List.push_toArray,List.append_toArray,List.nil_append,List.cons_append]
 go_upto_region 1 with fail
 generalize w.alloc (.cells #[.int .i64 2,.int .i64 1,.slice none 0 0,.int .i64 3,.slice (some ⟨G,0,none⟩) 1 1] 32)=W0 at *
 have HRG:=Lib.hid HX.out.range
 have HC:=Lib.hid (esize_c G W0 ((HG.out.keep HX.out.below).more HX.out.below.size))
 go_wp2_with (refine wpList_load_mid rfl 32 (.tmp 1) rfl w.heap.size 0 rfl [.int .i64 2,.int .i64 1,.slice none 0 0,.int .i64 3,.slice (some ⟨G,0,none⟩) 1 1] _ HRG.out Tryz.underlying32 rfl codeSize ?_)
 (with_reducible refine HC.out.mono ?_)
 rintro e w1 ⟨rfl,hb1⟩
 have HX1:=Lib.hid (HX.out.grow hb1)
 clear hb1 HC HX HRG
 clear W0
 have c3:w1.cell? ⟨w.heap.size,3,none⟩=some (.int .i64 3):=HX1.out.cell rfl
 have hs1:w.heap.size<=w1.heap.size:=HX1.out.below.size
 go_upto_region 5 with (refine wpList_make_full w1 rfl (.tmp 19) (.tmp 19) 23 rfl w.heap.size 3 i0 (.int .i64 0) 1 Tryz.underlying23 HI.out HZ0.out HZ1.out .i64 .i64 4 4 4 rfl rfl rfl rfl HB2.out (by unfold maxLen;omega) hs1 ?_;intro w2 hown hgr)
 have hb2:=qaL hgr
 have hr2:=Row.of_make hown
 have HX3:Hid (BX w [.int .i64 2,.int .i64 1,.slice none 0 0,.int .i64 3,.slice (some ⟨G,0,none⟩) 1 1] 32 (w2.alloc (.cells #[.slice (some ⟨w1.heap.size,0,none⟩) 4 4] 23))):=(HX1.out.grow hb2).grow ((Below.refl _ _).alloc (Nat.le_refl _) _)
 have HR3:Hid (Row (w2.alloc (.cells #[.slice (some ⟨w1.heap.size,0,none⟩) 4 4] 23)) w.heap.size w1.heap.size 4 (nz (cnts 0))):=hr2.below ((Below.refl w2.heap.size w2).alloc (Nat.le_refl _) _) hr2.lt.2
 have HC3:Hid ((w2.alloc (.cells #[.slice (some ⟨w1.heap.size,0,none⟩) 4 4] 23)).cell? ⟨w2.heap.size,0,none⟩=some (.slice (some ⟨w1.heap.size,0,none⟩) 4 4)):=cell_of_row _ _ 0 _ _ _ (heap_alloc_new _ _)
 have hs2:w1.heap.size<w2.heap.size:=hr2.lt.2
 have hs3:w2.heap.size<(w2.alloc (.cells #[.slice (some ⟨w1.heap.size,0,none⟩) 4 4] 23)).heap.size:=by simp
 have hbo:w.heap.size<w1.heap.size:=HX1.out.2.2
 generalize w2.alloc (.cells #[.slice (some ⟨w1.heap.size,0,none⟩) 4 4] 23)=w3 at *
 clear hown hgr hb2 hr2 HX1 c3 HI HZ0 HZ1 HB2 hs1
 generalize w1.heap.size=bo at *
 generalize w2.heap.size=Bo at *
 clear w1 w2
 have HRG:=Lib.hid HX3.out.range
 have HW:=Lib.hid (ewalk_c [.int .i64 2,.int .i64 1,.slice none 0 0,.int .i64 3,.slice (some ⟨G,0,none⟩) 1 1] w3)
 go_wp2_with (refine wpList_load_mid rfl 32 (.tmp 1) rfl w.heap.size 0 rfl [.int .i64 2,.int .i64 1,.slice none 0 0,.int .i64 3,.slice (some ⟨G,0,none⟩) 1 1] _ HRG.out Tryz.underlying32 rfl codeSize ?_)
 (with_reducible refine HW.out.mono ?_)
 rintro e w4 ⟨rfl,HW4⟩
 have hw4:=Lib.hid HW4
 have hsz4:w4.heap.size=w3.heap.size+1:=by rw [HW4];simp
 have HX4:Hid (BX w [.int .i64 2,.int .i64 1,.slice none 0 0,.int .i64 3,.slice (some ⟨G,0,none⟩) 1 1] 32 w4):=by rw [HW4];exact HX3.out.grow ((Below.refl _ _).alloc (Nat.le_refl _) _)
 have HR4:Hid (Row w4 w.heap.size bo 4 (nz (cnts 0))):=by rw [HW4];exact HR3.out.below ((Below.refl w3.heap.size w3).alloc (Nat.le_refl _) _) HR3.out.lt.2
 have HC4:Hid (w4.cell? ⟨Bo,0,none⟩=some (.slice (some ⟨bo,0,none⟩) 4 4)):=by rw [HW4];exact (((Below.refl w3.heap.size w3).alloc (Nat.le_refl _) _).cell (p:=⟨Bo,0,none⟩) hs3).trans HC3.out
 have HQ4:Hid (w4.rangeAt w3.heap.size 0 [.int .i64 2,.int .i64 1,.slice none 0 0,.int .i64 3,.slice (some ⟨G,0,none⟩) 1 1]):=by rw [HW4];exact qaC (heap_alloc_new _ _)
 clear HW4 hw4 HW HRG HX3 HR3 HC3
 generalize w3.heap.size=Bc at *
 clear w3
 go_upto_region 9 with fail
 have hBc:Bc<w4.heap.size:=by omega
 have HI0:Hid (WtI w Bo bo 0 w4):=⟨HC4.out,HR4.out,HX4.out.below⟩
 have HCF:Hid (∀ (l:Nat) (W:World),Below w4.heap.size w4 W->w4.heap.size<=l->CodeFar l bo Bc G W):=fun l W hb hl=>by
  have l2:=World.block_lt_of_cell? w _ HG1.out
  have l3:=World.block_lt_of_cell? w _ (HG2.out 0 (by omega))
  simp only at l2 l3
  have hw:=HX4.out.below
  have hb0:=hw.trans (hb.mono hw.size)
  have hsw:=hw.size
  exact ⟨by omega,by omega,qdS HQ4.out (hb.block Bc hBc),by omega,by omega,R,ro,cr,by omega,by omega,(hb0.cell (p:=⟨G,0,none⟩) l2).trans HG1.out,fun j hj=>(hb0.cell (p:=⟨R,ro+j,none⟩) l3).trans (HG2.out j hj)⟩
 refine (wpIn_wide (n:=0)).1 (range_two w4 rfl rfl (WtI w Bo bo) bo (by omega) (fun k A B h hb=>h.keep hb (by omega) (by omega) (by omega)) HI0.out (fun l J W hb hl1 hl2 hJ hY h0=>walk1_c l bo Bc G J W hJ hl1 (by have:=hb.size;omega) (HCF.out l W hb hl2) hY h0) (fun k g c=>{ tmps:=#[.agg #[.int .i64 2,.int .i64 1,.slice none 0 0,.int .i64 3,.slice (some ⟨G,0,none⟩) 1 1],.pointer (some ⟨w.heap.size,0,none⟩),.slice none 0 0,.int .i64 0,.int .i64 2,.int .i64 0,.pointer (some ⟨Bo,0,none⟩),undef,.slice (some ⟨g,0,none⟩) 3 c,.tuple #[.int .i64 2,.int .i64 0],.agg #[.int .i64 2,.int .i64 1,.slice none 0 0,.int .i64 3,.slice (some ⟨G,0,none⟩) 1 1],.tuple #[.int .i64 2,.int .i64 0],.int .i64 2,.int .i64 0,.int .i64 0,.bool false,undef,.pointer (some ⟨w.heap.size,3,none⟩),.int .i64 3,.int .i64 4,.slice (some ⟨bo,0,none⟩) 4 4,.agg #[.int .i64 2,.int .i64 1,.slice none 0 0,.int .i64 3,.slice (some ⟨G,0,none⟩) 1 1],.func (.func 167) #[] #[.pointer (some ⟨Bc,0,none⟩)],.int .i64 (k:Int),.slice (some ⟨g,0,none⟩) 3 c,undef,undef,undef,undef,undef,undef,undef,undef],defers:=[] }) ?_ ?_ ?_)
 . intro l k g c W K hK
   have hsem:∀ (ρ:Operand->Value) (o:Oper),(∀ c,o.op≠.defer c)->Oper.semAt (some l) ρ o=execOp ρ o:=fun ρ o h=>Oper.semAt_some l ρ o h
   clear HG HG1 HG2 HX4 HR4 HC4 HQ4 HCF HI0
   gi_wp2
   exact hK
 . intro l k g c W2 hk hi hrow
   have hst:=cnts_step hk
   have HWC:Hid (∀ V:World,IntsAt V V.heap.size (some ⟨g,0,none⟩) (nz (List.replicate 3 k))->Calls Tryz.prog 117 #[.slice (some ⟨g,0,none⟩) 3 c] V fun e w'=>e=.returned (.int .i64 ((Dv.wt (List.replicate 3 k):Nat):Int))/\V=w'):=fun V hV=>by
    have:=eweight_c (List.replicate 3 k) (some ⟨g,0,none⟩) c V hV (by simp)
    rw [List.length_replicate] at this
    exact this
   generalize Dv.wt (List.replicate 3 k)=t at *
   have HST:=Lib.hid hst
   have t0:(0:Int)<=(t:Int):=by omega
   have t1:(t:Int)<4:=by have:=hst.1;omega
   clear hst HG HG1 HG2 HX4 HR4 HC4 HQ4 HCF HI0
   have hk2:k<=2:=by omega
   clear hk
   have HI2:=Lib.hid hi
   have HSD:Hid (WtS w Bo bo g k W2.drew):=⟨hi.box,hi.row.below (Below.refl _ W2).drew hi.row.lt.2,(hrow.below (Below.refl _ W2).drew hrow.lt.2).ints hrow.lt.2⟩
   clear hi hrow
   gi_step
   refine qeL 7 7 (WtS w Bo bo g k) [(0,0),(1,1),(2,2),(1,3),(0,4),(1,5),(1,6)] default (noBar_wide.inRound l) (by kernel_rfl) (by kernel_rfl) (by kernel_rfl) HSD.out ?_
   simp only [List.map_cons,List.map_nil,List.getD_cons_zero,List.getD_cons_succ]
   apply qaZ rfl
   . intro V hV
     have y:=hV.1
     go_simp
     rfl
   go_simp
   apply qaR rfl
   . intro V
     go_simp
     rfl
   go_simp
   apply qcF rfl
   . go_simp
     exact ⟨rfl,rfl⟩
   have HWD:=Lib.hid (HWC.out W2.drew HSD.out.2.2)
   with_reducible refine HWD.out.mono ?_
   rintro e w' ⟨rfl,rfl⟩
   refine ⟨_,rfl,HSD.out,?_⟩
   go_simp
   apply qaR rfl
   . intro V
     go_simp
     rfl
   go_simp
   apply qaZ rfl
   . intro V hV
     have y:V.cell? ⟨bo,t,none⟩=some (.int .i64 0):=by
      have:=hV.2.1.cell (j:=t) (by rw [qaB,cnts_len k hk2];exact HST.out.1)
      rw [qaF,HST.out.2.1] at this
      exact this
     go_simp
     rfl
   go_simp
   iterate 2
    apply qaR rfl
    . intro V
      go_simp
      rfl
    go_simp
   refine qbZ ?_
   show wpListIn _ _ _ _ _ _ _ _
   have HR3:Hid (Row W2.drew w.heap.size bo 4 (nz (cnts k))):=HSD.out.2.1
   have HB3:Hid (Below w.heap.size w W2.drew):=HI2.out.low.drew
   have y:W2.drew.cell? ⟨bo,t,none⟩=some (.int .i64 0):=by
    have:=HR3.out.cell (j:=t) (by rw [qaB,cnts_len k hk2];exact HST.out.1)
    rw [qaF,HST.out.2.1] at this
    exact this
   have f:=HR3.out.frozen t
   have HBX3:Hid (W2.drew.cell? ⟨Bo,0,none⟩=some (.slice (some ⟨bo,0,none⟩) 4 4)):=by
    obtain ⟨h1,_,_⟩:=HSD.out
    exact h1
   have HSM:Hid (∀ b,b≠bo->(W2.drew.setCell ⟨bo,t,none⟩ (.int .i64 1)).heap[b]?=W2.heap[b]?):=fun b hb=>Below.heap_setCell W2.drew ⟨bo,t,none⟩ _ b hb
   have HIF:Hid (WtI w Bo bo (k+1) (W2.drew.setCell ⟨bo,t,none⟩ (.int .i64 1))):=by
    refine ⟨(World.cell?_of_block (a:=⟨Bo,0,none⟩) (Below.heap_setCell W2.drew ⟨bo,t,none⟩ _ Bo (by show Bo≠bo;omega))).trans HBX3.out,?_,HB3.out.setCell (p:=⟨bo,t,none⟩) (by show w.heap.size<=bo;omega) _⟩
    rw [<- HST.out.2.2,<- qbX]
    exact HR3.out.set t 1
   have hsem:∀ (ρ:Operand->Value) (o:Oper),(∀ c,o.op≠.defer c)->Oper.semAt (some l) ρ o=execOp ρ o:=fun ρ o h=>Oper.semAt_some l ρ o h
   repeat (first | go_values | gi_guarded | gi_step | gi_upon)
   exact ⟨rfl,HIF.out,by simp,fun b _ hb=>HSM.out b hb⟩
 . intro D W hi hD hd
   have y:=hi.box
   have HI2:=Lib.hid hi
   have HX5:Hid (w.heap.size<w4.heap.size):=HX4.out.2.2
   clear HG HG1 HG2 HX4 HR4 HC4 HQ4 HCF HI0
   go_wp2_with fail
   refine ⟨by simp,.inl ⟨_,_,rfl,run_takeDeferred hd,?_⟩⟩
   have hbp:=qcC (Below.refl D W) (Nat.le_refl D) (.deferred none)
   have hDw:=HX5.out
   have hr5:=HI2.out.row.below hbp (by omega)
   exact ⟨_,results_tmp2 rfl _ _ _,bo,rfl,hr5.ints hr5.lt.2,qcC HI2.out.low (by omega) _⟩
end Go.Proofs.YtlmglaonldlanaaGreat
