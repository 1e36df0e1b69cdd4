/-
 code.Dual at the code of 000 and 111. slices.ContainsFunc where no row is the column. derive.columns at the code of 000 and 111. modify.set of one position; modify.rest. derive.columns at the code of 000 and 111: no column is zero, no two are alike.
-/
import Derived.Test.YtlmglaonldlanaaGreatQ30
import Derived.Test.YtlmglaonldlanaaGreatQ32
import Derived.Test.YtlmglaonldlanaaGreatQ13
namespace Go.Proofs.YtlmglaonldlanaaGreat
open Go.RowKit Pln
theorem ker_T:kerM (opsT 2 1 lT) [[1,1,1]] 3=[[1,0,1],[0,1,1]]:=by kernel_rfl
theorem err_T:errC 2 1 [] 3 [[1,1,1]]=0:=by kernel_rfl
def LSk (a w:World):Prop:=Below a.heap.size a w
def RelDu (w1:World) (v5 v6:Value) (wx:World):Prop :=
 ∃ (b:Nat) (A':Option Addr) (c':Nat),v5=.pointer (some ⟨b,0,none⟩)/\v6=.int .i64 0/\wx.heap[b]?=some (.cells [.int .i64 3,.slice A' 2 c'].toArray 54 (0,0))/\RowsUp wx w1.heap.size A' [[1,0,1],[0,1,1]]/\Below w1.heap.size w1 wx
def DualRep (w:World) (e:Ending) (w':World):Prop :=
 (∃ (A':Option Addr) (c':Nat),e=.returned (.tuple #[.agg #[.int .i64 2,.int .i64 1,.slice none 0 0,.int .i64 3,.slice A' 2 c'],.int .i64 0])/\RowsUp w' w.heap.size A' [[1,0,1],[0,1,1]])/\Below w.heap.size w w'
set_option maxHeartbeats 4000000 in
set_option maxRecDepth 100000 in
theorem dual_rep (G:Nat) (w:World) (hG:RowsAt w w.heap.size (some ⟨G,0,none⟩) [[1,1,1]]) :
 Calls Tryz.prog 98 #[.agg #[.int .i64 2,.int .i64 1,.slice none 0 0,.int .i64 3,.slice (some ⟨G,0,none⟩) 1 1]] w (DualRep w):=by
 have HX:=Lib.hid (b2_new w [.int .i64 2,.int .i64 1,.slice none 0 0,.int .i64 3,.slice (some ⟨G,0,none⟩) 1 1] 32 [.int .i64 0,.int .i64 0,.slice none 0 0,.int .i64 0,.slice none 0 0] 32)
 have HG:=Lib.hid hG
 clear hG
 go_enter Tryz.func98,Tryz.ntmps98
 go_upto_region 1 with fail
 generalize (w.alloc (.cells #[.int .i64 2,.int .i64 1,.slice none 0 0,.int .i64 3,.slice (some ⟨G,0,none⟩) 1 1] 32)).alloc (.cells #[.int .i64 0,.int .i64 0,.slice none 0 0,.int .i64 0,.slice none 0 0] 32)=W0 at *
 have HRG:=Lib.hid HX.out.range
 have HCK:Hid (Calls Tryz.prog 27 #[.agg #[.int .i64 2,.int .i64 1,.slice none 0 0,.int .i64 3,.slice (some ⟨G,0,none⟩) 1 1]] W0 fun e w'=>e=.returned (.int .i64 (codeZ 2 1 [] 3 [[1,1,1]]))/\Below W0.heap.size W0 w'):=(qcS 2 1 [] none 0 3 [[1,1,1]] (some ⟨G,0,none⟩) 1 W0 (fun h=>absurd h (by simp)) (by simp) ((HG.out.keep HX.out.below).more HX.out.below.size) (by simp))
 rw [codeZ_rep] at HCK
 go_wp2_with (refine wpList_load_mid rfl 32 (.tmp 1) rfl w.heap.size 0 rfl [.int .i64 2,.int .i64 1,.slice none 0 0,.int .i64 3,.slice (some ⟨G,0,none⟩) 1 1] _ HRG.out Tryz.underlying32 rfl codeSize ?_)
 (with_reducible refine HCK.out.mono ?_)
 rintro e w1 ⟨rfl,hb1⟩
 have HX1:=Lib.hid (HX.out.grow hb1)
 clear hb1 HCK HX HRG
 clear W0
 have HRC:Hid (∀ W,LSk w1 W->W.rangeAt w.heap.size 0 [.int .i64 2,.int .i64 1,.slice none 0 0,.int .i64 3,.slice (some ⟨G,0,none⟩) 1 1]):=fun W hW=>(HX1.out.grow hW).range
 have HRF:Hid (∀ W,LSk w1 W->W.rangeAt w.heap.size 0 [.int .i64 2,.int .i64 1,.slice none 0 0]):=fun W hW=>(HX1.out.grow hW).field
 have HS0:Hid (LSk w1 w1.drew):=(Below.refl _ _).drew
 have HKER:Hid (∀ W,LSk w1 W->Calls Tryz.prog 156 #[.agg #[.int .i64 2,.int .i64 1,.slice none 0 0],.agg #[.int .i64 3,.slice (some ⟨G,0,none⟩) 1 1]] W fun e w'=>(∃ (A':Option Addr) (c':Nat),e=.returned (.tuple #[.agg #[.int .i64 3,.slice A' 2 c'],.int .i64 0])/\RowsUp w' W.heap.size A' [[1,0,1],[0,1,1]])/\Below W.heap.size W w'):=fun W hW=>by
  have h:=kernel_c 2 1 [] none 0 3 [[1,1,1]] (some ⟨G,0,none⟩) 1 W (fun h=>absurd h (by simp)) (by simp) ((((HG.out.keep HX1.out.below).more HX1.out.below.size).keep hW).more (Below.size hW)) (by omega) err_T
  have e:kerM (opsT (2:Int).toNat (1:Int).toNat (lOf 2 1 [])) [[1,1,1]] 3=[[1,0,1],[0,1,1]]:=ker_T
  rw [e] at h
  exact h
 go_upto_region 4 with fail
 go_cut [5,6] (fun v5 v6 wx=>RelDu w1 v5 v6 wx)
 case first =>
  refine qfH 10 9 8 (LSk w1) [(1,0),(0,1),(0,2),(2,3),(2,4),(1,5),(1,6),(1,7)] [(3,9)] default _ (.cells #[.int .i64 0,.slice none 0 0] 54) (by kernel_rfl) (by kernel_rfl) (fun _ _ d _ _ h=>by cases d <;> exact h) rfl rfl ?_ (fun W hW=>Below.alloc hW (Below.size hW) _) HS0.out ?_
  . intro a w
    unfold ptrTo
    go_simp
  simp only [List.map_cons,List.map_nil,List.getD_cons_zero,List.getD_cons_succ]
  apply x_free rfl
  . intro W
    go_simp
    rfl
  go_simp
  refine qeX rfl 29 (.tmp 14) rfl w.heap.size 0 rfl [.int .i64 2,.int .i64 1,.slice none 0 0] _ HRF.out Tryz.underlying29 rfl fieldSize ?_
  go_simp
  refine qeX rfl 32 (.tmp 1) rfl w.heap.size 0 rfl [.int .i64 2,.int .i64 1,.slice none 0 0,.int .i64 3,.slice (some ⟨G,0,none⟩) 1 1] _ HRC.out Tryz.underlying32 rfl codeSize ?_
  go_simp
  apply x_call rfl
  . intro W
    go_simp
    exact ⟨rfl,rfl⟩
  intro W1 hW1 hS1
  with_reducible refine (gen_c 2 1 none 0 0 3 (some ⟨G,0,none⟩) 1 1 W1).mono ?_
  rintro e w2 ⟨rfl,hb2⟩
  refine ⟨_,rfl,Below.trans hS1 (hb2.mono (Below.size hS1)),hb2,?_⟩
  go_simp
  apply x_call rfl
  . intro W
    go_simp
    exact ⟨rfl,rfl⟩
  intro W3 hW3 hS3
  have HK3:=Lib.hid (HKER.out W3 hS3)
  with_reducible refine HK3.out.mono ?_
  rintro e w4 ⟨⟨A',c',rfl,hr4⟩,hb4⟩
  refine ⟨_,rfl,Below.trans hS3 (hb4.mono (Below.size hS3)),hb4,?_⟩
  go_simp
  iterate 3
   apply x_free rfl
   . intro W
     go_simp
     rfl
   go_simp
  refine x_nil ?_
  intro W7 b hW7 hS7 hlo hF hbx
  have hs3:w1.heap.size<=W3.heap.size:=Below.size hS3
  have hF':¬ (W3.heap.size<=b/\b<w4.heap.size):=fun h=>hF (.inr h)
  have HRW:Hid (RowsUp (W7.setRow b #[.int .i64 3,.slice A' 2 c']) w1.heap.size A' [[1,0,1],[0,1,1]]) :=
   (hr4.of_blocks (by simpa using hW7.size) (fun k hk1 hk2=>by rw [setRow_other _ _ _ _ (by omega),hW7.block k hk2])).lower hs3
  have HKB:Hid ((W7.setRow b #[.int .i64 3,.slice A' 2 c']).heap[b]?=some (.cells [.int .i64 3,.slice A' 2 c'].toArray 54 (0,0))):=qbI _ _ _ _ _ hbx
  have HB7:Hid (Below w1.heap.size w1 (W7.setRow b #[.int .i64 3,.slice A' 2 c'])):=qbD hS7 hlo _
  unfold ptrTo
  refine qcU rfl 54 (.tmp 5) (.tmp 19) rfl b 54 #[.int .i64 0,.slice none 0 0] #[.int .i64 3,.slice A' 2 c'] rfl rfl hbx matSize rfl (by simp [Value.oneCell']) ?_
  go_simp
  refine qbZ ?_
  show wpList _ _ _ _ _ _
  clear hr4 hb4 hW7 hS7 hlo hF hbx hF' HK3
  go_wp2_with fail
  go_meet
  exact ⟨b,A',c',rfl,rfl,HKB.out,HRW.out,HB7.out⟩
 case rest =>
  obtain ⟨b,A',c',rfl,rfl,hk,hr,hb⟩:=hcut
  have HXc:=Lib.hid (HX1.out.grow hb)
  have HRR:=Lib.hid hr
  have HRG:=Lib.hid HXc.out.field
  have HRM:Hid (wc.rangeAt b 0 [.int .i64 3,.slice A' 2 c']):=qaC hk
  have hs1:w.heap.size<=w1.heap.size:=HX1.out.below.size
  have hs2:w.heap.size+1<w1.heap.size:=HX1.out.2.2.2
  clear hk hr hb HX1 HRC HRF HS0 HKER
  go_wp2_with (first
   | (refine wpList_load_mid rfl 29 (.tmp 21) rfl w.heap.size 0 rfl [.int .i64 2,.int .i64 1,.slice none 0 0] _ HRG.out Tryz.underlying29 rfl fieldSize ?_)
   | (refine wpList_load_mid rfl 54 (.tmp 5) rfl b 0 rfl [.int .i64 3,.slice A' 2 c'] _ HRM.out Tryz.underlying54 rfl matSize ?_))
  (with_reducible refine (of_nil 2 1 3 A' 2 c' wc).mono ?_)
  rintro e w2 ⟨rfl,hb2⟩
  have HX2:=Lib.hid (HXc.out.grow hb2)
  have HR2:=Lib.hid (HRR.out.grow hb2)
  have HK:=Lib.hid HX2.out.2.1
  have HY:=Lib.hid (HX2.out.set [.int .i64 2,.int .i64 1,.slice none 0 0,.int .i64 3,.slice A' 2 c'])
  clear hb2 HXc HRR HRG HRM
  go_wp2_with (refine qaE rfl 32 (.tmp 2) (.tmp 26) rfl w2 (w.heap.size+1) 32 #[.int .i64 0,.int .i64 0,.slice none 0 0,.int .i64 0,.slice none 0 0] #[.int .i64 2,.int .i64 1,.slice none 0 0,.int .i64 3,.slice A' 2 c'] rfl rfl HK.out codeSize rfl (by simp [Value.oneCell']) ?_)
  refine bodyPost_ret (qaP (P:=Tryz.prog) rfl _ _ (w.heap.size+1) 32 #[.int .i64 2,.int .i64 1,.slice none 0 0,.int .i64 3,.slice A' 2 c'] (0,0) _ _ rfl rfl HY.out.2.1 Tryz.underlying32 rfl codeSize) rfl ?_
  have hv:RowsUp (w2.setRow (w.heap.size+1) #[.int .i64 2,.int .i64 1,.slice none 0 0,.int .i64 3,.slice A' 2 c']) w1.heap.size A' [[1,0,1],[0,1,1]]:=HR2.out.of_blocks (by simp) fun k hk _=>setRow_other w2 (w.heap.size+1) k _ (by omega)
  exact ⟨⟨A',c',rfl,hv.lower hs1⟩,HY.out.below⟩
end Go.Proofs.YtlmglaonldlanaaGreat
namespace Go.Proofs.YtlmglaonldlanaaGreat
open Go.RowKit Pln
set_option maxHeartbeats 1000000 in
set_option maxRecDepth 100000 in
theorem columns2_c (o col:List Int) (Ao Ac:Option Addr) (co cc bc:Nat) (W:World) (ho:IntsAt W W.heap.size Ao o) (hc:W.cell? ⟨bc,0,none⟩=some (.slice Ac col.length cc)) (hi:IntsAt W W.heap.size Ac col) (hl:o.length<=1000) (hne:o≠col) :
 Calls Tryz.prog 103 #[.slice Ao o.length co,.pointer (some ⟨bc,0,none⟩)] W (Quiet (.bool false) W):=by
 have HC:=Lib.hid (sequal_c o col Ao Ac co cc W ho hi (by omega))
 rw [decide_eq_false hne] at HC
 clear ho hi
 go_enter Tryz.func103,Tryz.ntmps103
 go_wp2_with fail
 refine HC.out.mono ?_
 rintro e w' ⟨rfl,n,rfl⟩
 go_wp2_with fail
 go_ret
 exact ⟨rfl,n,rfl⟩
def RelFar (w:World) (n:Nat) (v8:Value) (wr:World):Prop:=∃ k m:Nat,k<=n/\v8=.int .i64 k/\wr=w.drewN m
set_option maxHeartbeats 2000000 in
set_option maxRecDepth 100000 in
theorem indexfar_c (R:List (List Int)) (col:List Int) (A Ac:Option Addr) (c cc bc:Nat) (w:World) (hA:RowsAt w w.heap.size A R) (hc:w.cell? ⟨bc,0,none⟩=some (.slice Ac col.length cc)) (hi:IntsAt w w.heap.size Ac col) (hl:R.length<=1000) (hr:∀ o∈R,o.length<=1000/\o≠col) :
 Calls Tryz.prog 159 #[.slice A R.length c,.func (.func 103) #[] #[.pointer (some ⟨bc,0,none⟩)]] w (Quiet (.int .i64 (-1)) w):=by
 have HA:=Lib.hid hA
 have HF:Hid (∀ (m k:Nat) (Ao:Option Addr) (co:Nat),k<R.length->IntsAt w w.heap.size Ao (R.getD k [])->Calls Tryz.prog 103 #[.slice Ao (R.getD k []).length co,.pointer (some ⟨bc,0,none⟩)] (w.drewN m) (Quiet (.bool false) (w.drewN m))):=fun m k Ao co hk ho=>by
  have hm:R.getD k []∈R:=by
   have:R.getD k []=R[k]:=by simp [List.getD,hk]
   rw [this]
   exact List.getElem_mem hk
  obtain ⟨h1,h2⟩:=hr _ hm
  exact columns2_c (R.getD k []) col Ao Ac co cc bc (w.drewN m) (ho.keep (qaA (Below.refl _ _) m)) hc (hi.keep (qaA (Below.refl _ _) m)) h1 h2
 clear hA hc hi hr
 go_enter Tryz.func159,Tryz.ntmps159
 go_wp2_with fail
 go_loopw [8] (fun v8 wr=>RelFar w R.length v8 wr) (fun v8 _=>R.length-(intOf v8).toNat)
 case atStart=>exact ⟨0,0,by omega,rfl,rfl⟩
 case round =>
  obtain ⟨k,m,hk,rfl,rfl⟩:=hrel
  by_cases hlt:k<R.length
  . obtain ⟨b,o,Ai,ci,rfl,hb,hcr,hir⟩ := HA.out.at_ (i := k) hlt
    have y0:(w.drewN m).cell? ⟨b,o+k,none⟩=some (.slice Ai (R.getD k []).length ci):=hcr
    have HC:=Lib.hid (HF.out m k Ai ci hlt hir)
    have k0:(0:Int)<=(k:Int):=by omega
    have k1:(k:Int)<(R.length:Int):=by omega
    have hw1:IntKind.i64.wrap ((k:Int)+1)=(k:Int)+1:=IntWalk.i64_in _ (by omega)
    clear hcr hir
    generalize R.getD k []=r at *
    go_wp2_with fail
    refine HC.out.mono ?_
    rintro e w' ⟨rfl,n,rfl⟩
    go_wp2_with fail
    go_roundw
    case rel=>exact ⟨k+1,m+n,by omega,by go_num,by first | rfl | rw [World.drewN_drewN]⟩
    case measure=>simp [intOf];omega
  . obtain rfl : k = R.length := by omega
    go_wp2_with fail
    go_ret
    exact ⟨rfl,m,rfl⟩
set_option maxHeartbeats 1000000 in
set_option maxRecDepth 100000 in
theorem containsfar_c (R:List (List Int)) (col:List Int) (A Ac:Option Addr) (c cc bc:Nat) (w:World) (hA:RowsAt w w.heap.size A R) (hc:w.cell? ⟨bc,0,none⟩=some (.slice Ac col.length cc)) (hi:IntsAt w w.heap.size Ac col) (hl:R.length<=1000) (hr:∀ o∈R,o.length<=1000/\o≠col) :
 Calls Tryz.prog 102 #[.slice A R.length c,.func (.func 103) #[] #[.pointer (some ⟨bc,0,none⟩)]] w (Quiet (.bool false) w):=by
 have HC:=Lib.hid (indexfar_c R col A Ac c cc bc w hA hc hi hl hr)
 clear hA hi hr
 go_enter Tryz.func102,Tryz.ntmps102
 go_wp2_with fail
 refine HC.out.mono ?_
 rintro e w' ⟨rfl,n,rfl⟩
 go_wp2_with fail
 go_ret
 exact ⟨rfl,n,rfl⟩
end Go.Proofs.YtlmglaonldlanaaGreat
namespace Go.Proofs.YtlmglaonldlanaaGreat
open Go.RowKit Pln
def colT (j:Nat):List Nat:=[[1,0],[0,1],[1,1]].getD j []
def rowT (k:Nat):List Nat:=[[1,0,1],[0,1,1]].getD k []
def colsT:List (List Nat):=[[1,0],[0,1],[1,1]]
theorem colT_len {j:Nat} (h:j<3):(colT j).length=2:=by
 match j,h with
 | 0,_=>rfl
 | 1,_=>rfl
 | 2,_=>rfl
theorem colT_lt {j:Nat} (h:j<3):∀ x∈colT j,x<2:=by
 match j,h with
 | 0,_=>decide
 | 1,_=>decide
 | 2,_=>decide
theorem colT_ix {j:Nat} (h:j<3):∃ p:Nat,nzIx (colT j) 0=(p:Int)/\p<2/\(colT j).getD p 0=1:=by
 match j,h with
 | 0,_=>exact ⟨0,rfl,by omega,rfl⟩
 | 1,_=>exact ⟨1,rfl,by omega,rfl⟩
 | 2,_=>exact ⟨0,rfl,by omega,rfl⟩
theorem inv_T:invT lT (logL lT (2 ^ 1)) (2 ^ 1) 1=1:=by kernel_rfl
theorem mul_T0:mulT lT (logL lT (2 ^ 1)) (2 ^ 1) 1 0=0:=by kernel_rfl
theorem scale_T {j:Nat} (h:j<3):scaleRow (opsT 2 1 lT) 1 (colT j)=colT j:=by
 have h0:(opsT 2 1 lT).mul 1 0=0:=mul_T0
 have h1:(opsT 2 1 lT).mul 1 1=1:=mul_T
 unfold scaleRow
 match j,h with
 | 0,_=>show [(opsT 2 1 lT).mul 1 1,(opsT 2 1 lT).mul 1 0]=[1,0];rw [h0,h1]
 | 1,_=>show [(opsT 2 1 lT).mul 1 0,(opsT 2 1 lT).mul 1 1]=[0,1];rw [h0,h1]
 | 2,_=>show [(opsT 2 1 lT).mul 1 1,(opsT 2 1 lT).mul 1 1]=[1,1];rw [h1]
theorem col_step {j k:Nat} (hj:j<3) (hk:k<2):(colT j).take (k+1)=(colT j).take k++[(rowT k).getD j 0]:=by
 match j,hj,k,hk with
 | 0,_,0,_=>rfl
 | 0,_,1,_=>rfl
 | 1,_,0,_=>rfl
 | 1,_,1,_=>rfl
 | 2,_,0,_=>rfl
 | 2,_,1,_=>rfl
theorem cols_far {j:Nat} (h:j<3):∀ o∈nzs (colsT.take j),o.length<=1000/\o≠nz (colT j):=by
 match j,h with
 | 0,_=>intro o ho;exact absurd ho (by simp [nzs])
 | 1,_=>decide
 | 2,_=>decide
theorem rowI {k:Nat} (h:k<2):([[1,0,1],[0,1,1]]:List (List Int)).getD k []=nz (rowT k)/\(rowT k).length=3:=by
 match k,h with
 | 0,_=>exact ⟨rfl,rfl⟩
 | 1,_=>exact ⟨rfl,rfl⟩
theorem colT_all {j:Nat} (h:j<3):(colT j).take 2=colT j:=by
 match j,h with
 | 0,_=>rfl
 | 1,_=>rfl
 | 2,_=>rfl
theorem cols_snoc {j:Nat} (h:j<3):colsT.take (j+1)=colsT.take j++[colT j]/\(colsT.take j).length=j:=by
 match j,h with
 | 0,_=>exact ⟨rfl,rfl⟩
 | 1,_=>exact ⟨rfl,rfl⟩
 | 2,_=>exact ⟨rfl,rfl⟩
end Go.Proofs.YtlmglaonldlanaaGreat
namespace Go.Proofs.YtlmglaonldlanaaGreat
open Go.RowKit Pln
def Num (w:World) (B:Nat) (v:Value) (l:List Nat):Prop:=w.ownsRow B 3 1 v l.length ((nz l).map (Value.int .i64))
section
variable {w w':World} {B:Nat} {v:Value} {l:List Nat}
theorem Num.nil (w:World) (B:Nat):Num w B (.slice none 0 0) []:=World.ownsRow_nil _ _ _ _
theorem Num.grow (h:Num w B v l) (hb:Below w.heap.size w w'):Num w' B v l :=
 World.ownsRow.kept h (row:=none) ⟨hb.os,hb.tape,hb.output,hb.size,fun j hj _=>hb.block j hj⟩ (by cases v.ownBlock <;> simp)
theorem Num.slice (h:Num w B v l):∃ VA ck,v=.slice VA l.length ck:=own_slice h
theorem Num.up {VA:Option Addr} {ck:Nat} (h:Num w B (.slice VA l.length ck) l):IntsUp w B VA (nz l):=qcQ h rfl
theorem Num.step {w2:World} {v':Value} {x:Nat} (h:w2.ownsRow B 3 1 v' (l.length+1) ((nz l).map (Value.int .i64)++[.int .i64 (x:Int)])):Num w2 B v' (l++[x]):=by
 unfold Num
 rw [List.length_append,nz,List.map_append,List.map_append]
 exact h
end
end Go.Proofs.YtlmglaonldlanaaGreat
namespace Go.Proofs.YtlmglaonldlanaaGreat
open Go.RowKit Pln
theorem app_int {W:World} {B:Nat} {v:Value} {l:List Nat} (x nb:Nat) (h:Num W B v l) (hB:B<=W.heap.size) (hl:l.length<=1000) (hn:W.heap[nb]?=some (.cells #[.int .i64 (x:Int)] 3 (0,0))) :
 ∃ (v':Value) (w':World),(Builtin.append_ #[23,23] 23 #[v,.slice (some ⟨nb,0,none⟩) 1 1]).run Tryz.prog W=.ok v' w'/\Num w' B v' (l++[x])/\W.grownBy w' v.ownBlock:=by
 obtain ⟨i0,hi,hz0,hz1,hz2⟩:=qaG infoInt
 have hr0:W.rangeAt nb 0 [.int .i64 (x:Int)]:=qaC hn
 obtain ⟨v',w',hrun,hown,hg,_,_⟩:=run_append_own_at (P:=Tryz.prog) (w:=W) B 23 23 3 i0 _ 1 8 Tryz.underlying23 hi hz0 hz1 hz2 rfl (by decide) v l.length _ h ⟨nb,0,none⟩ 1 1 [.int .i64 (x:Int)] rfl (fun j u hj=>by rw [Addr.add_mid];exact hr0 j u hj) (by intro u hu;simp at hu;subst hu;rfl) (by unfold maxLen;omega) (by omega) hB
 exact ⟨v',w',hrun,Num.step hown,hg⟩
def RelCk (wa:World) (bc j:Nat) (v36:Value) (wr:World):Prop :=
 ∃ (k:Nat) (v:Value),k<=2/\v36=.int .i64 k/\Num wr wa.heap.size v ((colT j).take k)/\wr.heap[bc]?=some (.cells [v].toArray 23 (0,0))/\Below bc wa wr/\wa.heap.size<=wr.heap.size
def RelCj (w2:World) (v9 v30:Value) (wr:World):Prop :=
 ∃ (j:Nat) (bs:List (Nat × Nat)),j<=3/\v30=.int .i64 j/\LGrid wr w2.heap.size v9 (colsT.take j) bs (colsT.take j).length/\Below w2.heap.size w2 wr
def CkS (bc:Nat) (v:Value) (br o x:Nat) (W:World):Prop:=W.heap[bc]?=some (.cells [v].toArray 23 (0,0))/\W.cell? ⟨br,o,none⟩=some (.int .i64 (x:Int))
set_option maxHeartbeats 8000000 in
set_option maxRecDepth 100000 in
theorem columns_rep (G:Nat) (w:World) (hG:RowsAt w w.heap.size (some ⟨G,0,none⟩) [[1,1,1]]) :
 Calls Tryz.prog 50 #[.agg #[.int .i64 2,.int .i64 1,.slice none 0 0,.int .i64 3,.slice (some ⟨G,0,none⟩) 1 1],.int .i64 3] w (BPost true w):=by
 have HX:=Lib.hid (qcY w [.int .i64 2,.int .i64 1,.slice none 0 0,.int .i64 3,.slice (some ⟨G,0,none⟩) 1 1] 32)
 have HG:=Lib.hid hG
 clear hG
 go_enter Tryz.func50,Tryz.ntmps50
 go_upto_region 1 with fail
 generalize w.alloc (.cells #[.int .i64 2,.int .i64 1,.slice none 0 0,.int .i64 3,.slice (some ⟨G,0,none⟩) 1 1] 32)=W0 at *
 have HRG:=Lib.hid HX.out.range
 have HD:=Lib.hid (dual_rep G W0 ((HG.out.keep HX.out.below).more HX.out.below.size))
 go_wp2_with (refine wpList_load_mid rfl 32 (.tmp 2) rfl w.heap.size 0 rfl [.int .i64 2,.int .i64 1,.slice none 0 0,.int .i64 3,.slice (some ⟨G,0,none⟩) 1 1] _ HRG.out Tryz.underlying32 rfl codeSize ?_)
 (with_reducible refine HD.out.mono ?_)
 rintro e w1 ⟨⟨A',c',rfl,hr⟩,hb1⟩
 have HX1:=Lib.hid (HX.out.grow hb1)
 have HR1:=Lib.hid (hr.lower HX.out.below.size)
 have hs1:w.heap.size<w1.heap.size:=Nat.lt_of_lt_of_le HX.out.2.2 hb1.size
 clear hb1 hr HD HX HRG HG
 clear W0
 go_upto_region 2 with (refine qaI rfl 32 (.tmp 5) (.tmp 20) rfl w1 _ #[.int .i64 2,.int .i64 1,.slice none 0 0,.int .i64 3,.slice A' 2 c'] rfl rfl codeSize rfl (by simp [Value.oneCell']) ?_)
 have hba:Below w1.heap.size w1 (w1.alloc (.cells #[.int .i64 2,.int .i64 1,.slice none 0 0,.int .i64 3,.slice A' 2 c'] 32)):=(Below.refl _ _).alloc (Nat.le_refl _) _
 have HX2:=Lib.hid (HX1.out.grow hba)
 have HR2:=Lib.hid (HR1.out.grow hba)
 have HK2:Hid ((w1.alloc (.cells #[.int .i64 2,.int .i64 1,.slice none 0 0,.int .i64 3,.slice A' 2 c'] 32)).heap[w1.heap.size]?=some (.cells #[.int .i64 2,.int .i64 1,.slice none 0 0,.int .i64 3,.slice A' 2 c'] 32 (0,0))):=heap_alloc_new _ _
 have hs2:w1.heap.size<(w1.alloc (.cells #[.int .i64 2,.int .i64 1,.slice none 0 0,.int .i64 3,.slice A' 2 c'] 32)).heap.size:=by simp
 clear hba HX1 HR1
 generalize w1.alloc (.cells #[.int .i64 2,.int .i64 1,.slice none 0 0,.int .i64 3,.slice A' 2 c'] 32)=W2 at *
 generalize w1.heap.size=Bd at *
 clear w1
 have HRG:=Lib.hid HX2.out.field
 have HN:Hid (Calls Tryz.prog 72 #[.agg #[.int .i64 2,.int .i64 1,.slice none 0 0]] W2 fun e w'=>(∃ gb,e=.returned (.tuple #[.pointer (some ⟨gb,0,none⟩),.int .i64 0])/\GFUp w' W2.heap.size gb 2 1 lT (logL lT (2 ^ 1)))/\Below W2.heap.size W2 w'):=(fnew_up 2 1 [] none 0 W2 (fun h=>absurd h (by simp)) (by kernel_rfl))
 go_wp2_with (refine wpList_load_mid rfl 29 (.tmp 23) rfl w.heap.size 0 rfl [.int .i64 2,.int .i64 1,.slice none 0 0] _ HRG.out Tryz.underlying29 rfl fieldSize ?_)
 (with_reducible refine HN.out.mono ?_)
 rintro e w3 ⟨⟨gb,rfl,hg⟩,hb3⟩
 have HX3:=Lib.hid (HX2.out.grow hb3)
 have HR3:=Lib.hid (HR2.out.grow hb3)
 have HK3:=Lib.hid ((hb3.block Bd hs2).trans HK2.out)
 have hs3:Bd<w3.heap.size:=Nat.lt_of_lt_of_le hs2 hb3.size
 have HGF:=Lib.hid hg.at_
 clear hb3 hg HX2 HR2 HK2 HN HRG hs2
 clear W2
 have y3:w3.cell? ⟨w.heap.size,3,none⟩=some (.int .i64 3):=HX3.out.cell rfl
 go_wp2_with fail
 have HJ0:Hid (RelCj w3 (.slice none 0 0) (.int .i64 ((0:Nat):Int)) w3):=⟨0,[],by omega,rfl,⟨rfl,Nat.zero_le _,World.ownsRow_nil _ _ _ _,fun i hi=>by simp at hi,fun i hi=>by simp at hi⟩,Below.refl _ _⟩
 go_loopw [9,30] (fun v9 v30 wr=>RelCj w3 v9 v30 wr) (fun _ v30 _=>3-(intOf v30).toNat)
 case atStart=>exact HJ0.out
 case round =>
  obtain ⟨j,bs,hj,rfl,hlg,hb⟩:=hrel
  have HLG:=Lib.hid hlg
  have HB:=Lib.hid hb
  clear hlg hb HJ0 y3
  by_cases hlt:j<3
  . have j0 : (0 : Int) <= (j : Int) := by omega
    have j1:(j:Int)<3:=by omega
    have hwj:IntKind.i64.wrap ((j:Int)+1)=(j:Int)+1:=IntWalk.i64_in _ (by omega)
    obtain ⟨hsn,hsl⟩:=cols_snoc hlt
    have HSN:=Lib.hid hsn
    have HFAR:=Lib.hid (cols_far hlt)
    obtain ⟨VO,co,e9,_⟩:=qbO HLG.out.out
    rw [hsl] at e9
    subst e9
    clear hsn
    obtain ⟨i00,hi',hz0',hz1',hz2'⟩:=qaG infoInts
    have HI':=Lib.hid hi'
    have HZ0':=Lib.hid hz0'
    have HZ1':=Lib.hid hz1'
    have HZ2':=Lib.hid hz2'
    clear hi' hz0' hz1' hz2'
    generalize colsT.take j=R at HLG HSN HFAR hsl
    have HSL:=Lib.hid hsl
    clear hsl
    go_upto_region 8 with fail
    have hba:Below wr.heap.size wr (wr.alloc (.cells #[.slice none 0 0] 23)):=(Below.refl _ _).alloc (Nat.le_refl _) _
    have HKa:Hid ((wr.alloc (.cells #[.slice none 0 0] 23)).heap[wr.heap.size]?=some (.cells [.slice none 0 0].toArray 23 (0,0))):=heap_alloc_new _ _
    have hsa:wr.heap.size<(wr.alloc (.cells #[.slice none 0 0] 23)).heap.size:=by simp
    have HBO:Hid (∀ W,Below wr.heap.size (wr.alloc (.cells #[.slice none 0 0] 23)) W->Below wr.heap.size wr W):=fun W hW=>hba.trans hW
    have HLO:=Lib.hid HLG.out
    have hbc:w3.heap.size<=wr.heap.size:=HB.out.size
    have HBa:=Lib.hid (HB.out.trans (hba.mono hbc))
    clear hba HLG HB
    generalize wr.alloc (.cells #[.slice none 0 0] 23)=wa at *
    generalize hbce:wr.heap.size=bc at HKa hsa hbc HBO ⊢
    have HSO:=Lib.hid hbce
    clear hbce
    have y4:wa.cell? ⟨Bd,4,none⟩=some (.slice A' 2 c'):=(HBa.out.cell (p:=⟨Bd,4,none⟩) hs3).trans (cell_of_row _ _ 4 _ _ _ HK3.out)
    have HRw:Hid (RowsAt wa w3.heap.size A' [[1,0,1],[0,1,1]]):=HR3.out.rowsAt.keep HBa.out
    have HK0:Hid (RelCk wa bc j (.int .i64 ((0:Nat):Int)) wa):=⟨0,.slice none 0 0,by omega,rfl,Num.nil _ _,HKa.out,Below.refl _ _,Nat.le_refl _⟩
    go_wp2_with fail
    clear y4
    go_loopw [36] (fun v36 wr=>RelCk wa bc j v36 wr) (fun v36 _=>2-(intOf v36).toNat)
    case atStart=>exact HK0.out
    case round =>
     obtain ⟨k,v,hk,rfl,hnum,hcell,hb,hsz⟩:=hrel
     have HN:=Lib.hid hnum
     have HC:=Lib.hid hcell
     have HB:=Lib.hid hb
     clear hnum hcell hb HK0 HKa
     by_cases hlk:k<2
     . have k0 : (0 : Int) <= (k : Int) := by omega
       have k1:(k:Int)<2:=by omega
       have hwk:IntKind.i64.wrap ((k:Int)+1)=(k:Int)+1:=IntWalk.i64_in _ (by omega)
       obtain ⟨hrI,hrl⟩:=rowI hlk
       obtain ⟨bR,oR,Ai,ci,rfl,hbR,hcr,hir⟩:=(HRw.out.keep (HB.out.mono hbc)).at_ (i:=k) hlk
       rw [hrI] at hcr hir
       rw [qaB,hrl] at hcr
       obtain ⟨bi,oi,rfl,hbi,hce⟩:=hir.at_ (k:=j) (by rw [qaB,hrl];exact hlt)
       rw [qaF] at hce
       have HST:=Lib.hid (col_step hlt hlk)
       clear hrI hrl hir
       generalize (rowT k).getD j 0=x at *
       go_upto_region 11 with fail
       have HSD:Hid (CkS bc v bi (oi+j) x wr.drew):=⟨HC.out,hce⟩
       have HND:Hid (Num wr.drew wa.heap.size v ((colT j).take k)):=HN.out.grow (Below.refl _ wr).drew
       have HBD:Hid (Below bc wa wr.drew):=HB.out.drew
       have hszd:wa.heap.size<=wr.drew.heap.size:=hsz
       have htl:((colT j).take k).length<=1000:=by rw [List.length_take];omega
       refine qaX 7 7 (CkS bc v bi (oi+j) x) [(0,0),(1,1),(1,2),(1,3),(0,4),(2,5),(2,6)] default (by kernel_rfl) (by kernel_rfl) (fun _ _ d _ _ h=>by cases d <;> exact h) HSD.out ?_
       generalize wr.drew=Wd at *
       clear HN HC HB hsz hcr hce
       simp only [List.map_cons,List.map_nil,List.getD_cons_zero,List.getD_cons_succ]
       apply qaZ rfl
       . intro V hV
         have y:V.cell? ⟨bc,0,none⟩=some v:=cell_of_row _ _ 0 _ _ _ hV.1
         go_simp
         rfl
       go_simp
       iterate 3
        apply qaR rfl
        . intro V
          go_simp
          rfl
        go_simp
       apply qaZ rfl
       . intro V hV
         have y:=hV.2
         go_simp
         rfl
       go_simp
       have hb5:Below Wd.heap.size Wd (Wd.alloc (.cells #[.int .i64 (x:Int)] 3)):=(Below.refl _ _).alloc (Nat.le_refl _) _
       have HS5:Hid (CkS bc v bi (oi+j) x (Wd.alloc (.cells #[.int .i64 (x:Int)] 3))):=⟨(hb5.block bc (by omega)).trans HSD.out.1,(hb5.cell (p:=⟨bi,oi+j,none⟩) (by show bi<Wd.heap.size;omega)).trans HSD.out.2⟩
       have HN5:=Lib.hid (HND.out.grow hb5)
       have HB5:=Lib.hid (HBD.out.trans (hb5.mono (by omega)))
       have HK5:Hid ((Wd.alloc (.cells #[.int .i64 (x:Int)] 3)).heap[Wd.heap.size]?=some (.cells #[.int .i64 (x:Int)] 3 (0,0))):=heap_alloc_new _ _
       have hs5:wa.heap.size<=(Wd.alloc (.cells #[.int .i64 (x:Int)] 3)).heap.size:=Nat.le_trans hszd hb5.size
       apply qdJ rfl (v:=.slice (some ⟨Wd.heap.size,0,none⟩) 1 1) (w':=Wd.alloc (.cells #[.int .i64 (x:Int)] 3))
       . go_simp
       . exact HS5.out
       go_simp
       generalize Wd.heap.size=nb at *
       generalize Wd.alloc (.cells #[.int .i64 (x:Int)] 3)=W5 at *
       obtain ⟨v',w6,hrun,hn6,hg6⟩:=app_int x nb HN5.out hs5 htl HK5.out
       have hb6:Below wa.heap.size W5 w6:=(Below.refl _ _).grown hg6 hs5 (fun i hi=>(World.ownsRow.lt HN5.out i hi).1)
       have HS6:Hid (CkS bc v bi (oi+j) x w6):=⟨(hb6.block bc hsa).trans HS5.out.1,(hb6.cell (p:=⟨bi,oi+j,none⟩) (by show bi<wa.heap.size;omega)).trans HS5.out.2⟩
       have HN6:=Lib.hid hn6
       rw [<- HST.out] at HN6
       have HB6:=Lib.hid (HB5.out.trans (hb6.mono (Nat.le_of_lt hsa)))
       have hs6:wa.heap.size<=w6.heap.size:=Nat.le_trans hs5 hb6.size
       have hl6:((colT j).take (k+1)).length=k+1:=by rw [List.length_take,colT_len hlt];omega
       obtain ⟨VA,ck,e6⟩:=HN6.out.slice
       rw [hl6] at e6
       subst e6
       clear hl6
       refine qdJ rfl (qeI (.tmp 40) (.tmp 45) 23 rfl rfl rfl hrun) HS6.out ?_
       go_simp
       clear hrun hn6 hg6 hb6 hb5 HS5 HN5 HB5 HK5 HSD HND HBD
       refine qbZ ?_
       show wpList _ _ _ _ _ _
       have yb:w6.cell? ⟨bc,0,none⟩=some v:=cell_of_row _ _ 0 _ _ _ HS6.out.1
       have fb:w6.frozen? ⟨bc,0,none⟩=false:=by simp [World.frozen?,HS6.out.1]
       have HK7:=Lib.hid (qaT HS6.out.1 0 (.slice VA (k+1) ck))
       have HN7:Hid (Num (w6.setCell ⟨bc,0,none⟩ (.slice VA (k+1) ck)) wa.heap.size (.slice VA (k+1) ck) ((colT j).take (k+1))):=World.ownsRow.kept HN6.out (qbQ w6 ⟨bc,0,none⟩ _) (.inr (fun e=>by have:=(World.ownsRow.lt HN6.out bc e).1;omega))
       have HB7:=Lib.hid (HB6.out.setCell (p:=⟨bc,0,none⟩) (Nat.le_refl _) (.slice VA (k+1) ck))
       have hs7:wa.heap.size<=(w6.setCell ⟨bc,0,none⟩ (.slice VA (k+1) ck)).heap.size:=by simpa using hs6
       go_wp2_with fail
       go_roundw
       case rel=>exact ⟨k+1,_,by omega,by go_num,HN7.out,HK7.out,HB7.out,hs7⟩
       case measure=>first | (simp [intOf];done) | (simp [intOf];omega)
     . obtain rfl : k = 2 := by omega
       rw [colT_all hlt] at HN
       obtain ⟨p,hp,hp2,hpv⟩:=colT_ix hlt
       have hcl:=colT_len hlt
       obtain ⟨VA,ck,ev⟩:=HN.out.slice
       rw [hcl] at ev
       subst ev
       have HUP:Hid (IntsAt wr wr.heap.size VA (nz (colT j))):=by
        have h:=HN.out
        unfold Num at h
        rw [hcl] at h
        exact (qcQ h hcl).ints
       have HIX:=Lib.hid (indexnz_c 100 columns1_c (enters_of Tryz.func100 (by kernel_rfl) rfl) (colT j) VA ck wr HUP.out (by omega))
       rw [hcl,hp] at HIX
       have yc:wr.cell? ⟨bc,0,none⟩=some (.slice VA 2 ck):=cell_of_row _ _ 0 _ _ _ HC.out
       obtain ⟨bv,ov,rfl,hbv,hcv⟩:=HUP.out.at_ (k:=p) (by rw [qaB,hcl];exact hp2)
       rw [qaF,hpv] at hcv
       have p0:(0:Int)<=(p:Int):=by omega
       have p1:(p:Int)<2:=by omega
       have p3:¬ (p:Int)<0:=by omega
       have HBw:=Lib.hid (HBa.out.trans (HB.out.mono hbc))
       have HGw:=Lib.hid ((HGF.out.keep HBw.out).more HBw.out.size)
       have HIV:=Lib.hid (inv_c 1 gb 2 1 wr.heap.size _ lT wr ft_T HGw.out (by omega) (by omega))
       rw [inv_T] at HIV
       clear hp hpv HN
       go_wp2_with fail
       refine HIX.out.mono ?_
       rintro e w' ⟨rfl,rfl⟩
       clear HIX
       go_wp2_with fail
       refine HIV.out.mono ?_
       rintro e w' ⟨rfl,n,rfl⟩
       clear HIV hcv
       have yc2:(wr.drewN n).cell? ⟨bc,0,none⟩=some (.slice (some ⟨bv,ov,none⟩) 2 ck):=yc
       have HSC:=Lib.hid (scale_c 1 gb 2 1 _ lT (colT j) (some ⟨bv,ov,none⟩) ck (wr.drewN n) ft_T (HGw.out.keep (qaA (Below.refl _ _) n)) (by omega) (colT_lt hlt) (HUP.out.keep (qaA (Below.refl _ _) n)) (by omega))
       rw [scale_T hlt,hcl] at HSC
       have HKn:Hid ((wr.drewN n).heap[bc]?=some (.cells [.slice (some ⟨bv,ov,none⟩) 2 ck].toArray 23 (0,0))):=HC.out
       have HBn:Hid (Below bc wa (wr.drewN n)):=qaA HB.out n
       have hbn:bc<(wr.drewN n).heap.size:=Nat.lt_of_lt_of_le hsa hsz
       clear HUP HGw HBw HC HB hsz
       generalize wr.drewN n=wn at *
       go_wp2_with fail
       refine HSC.out.mono ?_
       rintro e w4 ⟨rfl,hr4,hb4⟩
       have HK4:=Lib.hid ((hb4.block bc hbn).trans HKn.out)
       have HR4:=Lib.hid hr4
       have HB4:=Lib.hid (HBn.out.trans (hb4.mono (Nat.le_of_lt hbn)))
       have hs4:=HR4.out.lt.2
       clear hr4 hb4 HSC HKn HBn yc yc2
       generalize wn.heap.size=gs at *
       clear wn
       have y5:w4.cell? ⟨bc,0,none⟩=some (.slice (some ⟨bv,ov,none⟩) 2 ck):=cell_of_row _ _ 0 _ _ _ HK4.out
       have f5:w4.frozen? ⟨bc,0,none⟩=false:=by simp [World.frozen?,HK4.out]
       go_upto_region 18 with fail
       have HK5:=Lib.hid (qaT HK4.out 0 (.slice (some ⟨gs,0,none⟩) 2 2))
       have HR5:=Lib.hid (HR4.out.far (p:=⟨bc,0,none⟩) (by show gs≠bc;omega) (.slice (some ⟨gs,0,none⟩) 2 2))
       have HB5:=Lib.hid (HB4.out.setCell (p:=⟨bc,0,none⟩) (Nat.le_refl _) (.slice (some ⟨gs,0,none⟩) 2 2))
       clear y5 f5 HK4 HR4 HB4 hs4
       generalize w4.setCell ⟨bc,0,none⟩ (.slice (some ⟨gs,0,none⟩) 2 2)=w5 at *
       clear w4
       have HB5o:Hid (∀ W,Below bc w5 W->LGrid W w3.heap.size (.slice VO j co) R bs R.length):=fun W hW=>HLO.out.grow (by rw [HSO.out];exact HBO.out W (HB5.out.trans hW))
       have hs5:w3.heap.size<=w5.heap.size:=Nat.le_trans HBa.out.size HB5.out.size
       have hgs:=HR5.out.lt
       have hRA:RowsAt w5 w5.heap.size VO (nzs R):=by
        have h:=HB5o.out w5 (Below.refl _ _)
        rw [<- HSL.out] at h
        exact h.up.rowsAt
       have HCF:=Lib.hid (containsfar_c (nzs R) (nz (colT j)) VO (some ⟨gs,0,none⟩) co 2 bc w5 hRA (by rw [qaB,hcl];exact cell_of_row _ _ 0 _ _ _ HK5.out) (HR5.out.ints HR5.out.lt.2) (by rw [qbC,HSL.out];omega) HFAR.out)
       rw [qbC,HSL.out] at HCF
       clear hRA
       go_wp2_with fail
       refine HCF.out.mono ?_
       rintro e w' ⟨rfl,n2,rfl⟩
       clear HCF
       have yc:(w5.drewN n2).cell? ⟨bc,0,none⟩=some (.slice (some ⟨gs,0,none⟩) 2 2):=cell_of_row _ _ 0 _ _ _ HK5.out
       have HBd:Hid (Below bc w5 (w5.drewN n2)):=qaA (Below.refl _ _) n2
       have HR6:Hid (Row (w5.drewN n2) bc gs 2 (nz ((R++[colT j]).getD R.length []))):=by
        show Row _ _ _ _ _
        rw [qbB R (colT j) []]
        exact (HR5.out.below (qaA (Below.refl w5.heap.size w5) n2) hgs.2).base (by omega)
       have HB6:Hid (Below bc wa (w5.drewN n2)):=HB5.out.trans HBd.out
       have HL6:=Lib.hid ((HB5o.out _ HBd.out).wide (colT j))
       have hs6:w3.heap.size<=(w5.drewN n2).heap.size:=hs5
       have hbs6:bc<(w5.drewN n2).heap.size:=Nat.lt_of_le_of_lt (by omega) hgs.2
       have hg2:(R++[colT j]).getD R.length []=colT j:=qbB R (colT j) []
       clear HB5 HK5 HR5 HBd HB5o
       generalize w5.drewN n2=w6 at *
       have HOW:Hid ((w6.alloc (.cells #[.slice (some ⟨gs,0,none⟩) 2 2] 23)).ownsRow w3.heap.size 23 1 (.slice VO j co) j ((List.range j).map (hdr (R++[colT j]) bs))):=by
        have h:=HL6.out.out
        rw [HSL.out] at h
        exact World.ownsRow.alloc h _
       go_wp2_with (at_builtin;refine wpList_append_own_at _ rfl (.tmp 72) (.tmp 74) 30 rfl w3.heap.size 23 i00 _ 1 24 Tryz.underlying30 HI'.out HZ0'.out HZ1'.out HZ2'.out rfl (by decide) (.slice VO j co) j ((List.range j).map (hdr (R++[colT j]) bs)) rfl HOW.out ⟨w6.heap.size,0,none⟩ 1 1 [.slice (some ⟨gs,0,none⟩) 2 2] rfl rfl ?c1 ?c2 ?c3 ?c4 ?c5 ?_)
       try case c1=>exact World.news_of_block (cs:=#[.slice (some ⟨gs,0,none⟩) 2 2]) (t:=23) (fr:=(0,0)) (heap_alloc_new w6 _)
       case c2=>first | rfl | (intro u hu;simp at hu;subst hu;rfl)
       case c3=>unfold maxLen;omega
       case c4=>omega
       case c5=>first | omega | (simp;omega) | assumption
       intro v' w7 hown' hgw _ hat
       have HLW:=Lib.hid (HLO.out.wide (colT j))
       have hlow:∀ i,(Value.slice VO j co).ownBlock=some i->w3.heap.size<=i:=fun i hi=>(World.ownsRow.lt HLO.out.out i hi).1
       have HX7:Hid (LGrid w7 w3.heap.size v' (R++[colT j]) (bs++[(gs,2)]) (R.length+1)):=by
        refine HLW.out.step (by simp) (by rw [HSO.out];exact hbc) (by rw [HSO.out];exact HBO.out _ HB6.out) (by rw [HSO.out];exact HR6.out) ?_ hgw (by simpa using hat)
        rw [hg2,hcl,HSL.out]
        exact hown'
       have HB7:Hid (Below w3.heap.size w3 w7):=((HBa.out.trans (HB6.out.mono hbc)).alloc hs6 _).grown hgw (by simp;omega) (fun i hi=>hlow i hi)
       clear hown' hgw hat HOW HL6 HB6 HR6 hlow HLW
       go_wp2_with fail
       go_roundw
       case rel=>exact ⟨j+1,bs++[(gs,2)],by omega,by go_num,by rw [HSN.out,List.length_append];exact HX7.out,HB7.out⟩
       case measure=>first | (simp [intOf];done) | (simp [intOf];omega)
  . go_wp2_with fail
    go_ret
    exact ⟨rfl,HX3.out.below.trans (HB.out.mono HX3.out.below.size)⟩
end Go.Proofs.YtlmglaonldlanaaGreat
