/-
 code.Walk's function, over the code of 000 and 111: two words come. The reference's field: the order, primes, digits.
-/
import Derived.Laws.EntriesVeiled
import Derived.Test.YtlmglaonldlanaaGreatQ17
import Derived.Test.YtlmglaonldlanaaGreatQ18
import Derived.Test.YtlmglaonldlanaaGreatQ16
import Derived.Test.YtlmglaonldlanaaGreatQ15
namespace Go.Proofs.YtlmglaonldlanaaGreat
open Go.RowKit Pln
section
variable {P:Program} {S:World->Prop} {K:Act->World->Prop} {o:Oper} {r:List (Nat × Oper)} {a:Act} {w:World}
theorem mixf_make (hgd:o.guard=none) (l c:Operand) (t:TypeId) (hop:o.op=Op.makeSlice t l c)
 (base:Nat) (e:TypeId) (i:TypeInfo) (z:Value) (size:Nat) (h1:P.underlying t=some (.slice e)) (h2:P.info? e=some i) (h3:i.zero=some z) (h4:i.size=size)
 (kl kc:IntKind) (n:Nat) (hl:a.eval l=.int kl (n:Int)) (hc:a.eval c=.int kc (n:Int)) (b2:i.bytes*n<=281474976710656) (b3:n<=maxLen) (b4:base<=w.heap.size)
 (h:∀ w',w'.ownsRow base e size (.slice (some ⟨w.heap.size,0,none⟩) n n) n (madeCells z.cells (n*size)).toList->w.grownBy w' none->S w'/\wpMixF P S K r (a.put o.dst (.slice (some ⟨w.heap.size,0,none⟩) n n)) w') :
 wpMixF P S K ((2,o) :: r) a w:=by
 obtain ⟨w',hrun,r1,r2⟩:=run_make_full (P:=P) w base t e i z size h1 h2 h3 h4 kl kc n b2 b3 b4
 obtain ⟨hS,hk⟩:=h w' r1 r2
 refine qdJ hgd ?_ hS hk
 simp [execOp,hop,hl,hc,hrun,Result.andThen]
end
def CodeFar (l bo Bc G:Nat) (W:World):Prop :=
 Bc≠l/\Bc≠bo/\W.rangeAt Bc 0 [.int .i64 2,.int .i64 1,.slice none 0 0,.int .i64 3,.slice (some ⟨G,0,none⟩) 1 1]/\G≠l/\G≠bo/\∃ R ro cr,R≠l/\R≠bo/\W.cell? ⟨G,0,none⟩=some (.slice (some ⟨R,ro,none⟩) 3 cr)/\∀ j,j<3->W.cell? ⟨R,ro+j,none⟩=some (.int .i64 1)
theorem range_lt {w:World} {b o:Nat} {v:Value} {cs:List Value} (h:w.rangeAt b o (v :: cs)):b<w.heap.size:=World.block_lt_of_cell? w ⟨b,o+0,none⟩ (h 0 v rfl)
theorem CodeFar.rows {l bo Bc G:Nat} {W:World} (h:CodeFar l bo Bc G W):RowsAt W W.heap.size (some ⟨G,0,none⟩) [[1,1,1]]:=by
 obtain ⟨_,_,_,_,_,R,ro,cr,_,_,h1,h2⟩:=h
 refine fun _=>⟨G,0,rfl,World.block_lt_of_cell? W _ h1,fun i hi=>?_⟩
 obtain rfl:i=0:=by simpa using hi
 refine ⟨some ⟨R,ro,none⟩,cr,h1,fun _=>⟨R,ro,rfl,World.block_lt_of_cell? W _ (h2 0 (by omega)),fun j hj=>?_⟩⟩
 have hj3:j<3:=hj
 rw [h2 j hj3]
 match j,hj3 with
 | 0,_=>rfl
 | 1,_=>rfl
 | 2,_=>rfl
theorem codeZ_rep:codeZ 2 1 [] 3 [[1,1,1]]=0:=by kernel_rfl
set_option maxHeartbeats 4000000 in
set_option maxRecDepth 100000 in
theorem walk1_c (l bo Bc G:Nat) (J:Nat->World->Prop) (w:World) (hJ:∀ j A B,J j A->Below w.heap.size A B->J j B) (hl:l<w.heap.size) (ho:bo<w.heap.size) (hC:CodeFar l bo Bc G w) (hY:RndsOk l bo w.heap.size J) (h0:J 0 w) :
 Calls Tryz.prog 167 #[.func (.yield l) #[] #[],.pointer (some ⟨Bc,0,none⟩)] w fun e w'=>(∃ v,e=.returned v)/\J 2 w':=by
 have HJ:=Lib.hid hJ
 have HC:=Lib.hid hC
 have HY:=Lib.hid hY
 have HB0:Hid (Below w.heap.size w (w.alloc (.cells #[.func (.yield l) #[] #[]] 188))):=(Below.refl _ _).alloc (Nat.le_refl _) _
 have HK0:Hid ((w.alloc (.cells #[.func (.yield l) #[] #[]] 188)).heap[w.heap.size]?=some (.cells #[.func (.yield l) #[] #[]] 188 (0,0))):=heap_alloc_new _ _
 have HS0:Hid (w.heap.size<(w.alloc (.cells #[.func (.yield l) #[] #[]] 188)).heap.size):=by show _ < _;simp
 clear hJ hC hY
 go_enter Tryz.func167,Tryz.ntmps167
 go_upto_region 1 with fail
 generalize w.alloc (.cells #[.func (.yield l) #[] #[]] 188)=W0 at *
 have HRG:Hid (W0.rangeAt Bc 0 [.int .i64 2,.int .i64 1,.slice none 0 0,.int .i64 3,.slice (some ⟨G,0,none⟩) 1 1]):=qdS HC.out.2.2.1 (HB0.out.block Bc (range_lt HC.out.2.2.1))
 have HCK:Hid (Calls Tryz.prog 27 #[.agg #[.int .i64 2,.int .i64 1,.slice none 0 0,.int .i64 3,.slice (some ⟨G,0,none⟩) 1 1]] W0 fun e w'=>e=.returned (.int .i64 (codeZ 2 1 [] 3 [[1,1,1]]))/\Below W0.heap.size W0 w'):=(qcS 2 1 [] none 0 3 [[1,1,1]] (some ⟨G,0,none⟩) 1 W0 (fun h=>absurd h (by simp)) (by simp) ((HC.out.rows.keep HB0.out).more HB0.out.size) (by simp))
 rw [codeZ_rep] at HCK
 go_wp2_with (refine wpList_load_mid rfl 32 (.tmp 1) rfl Bc 0 rfl [.int .i64 2,.int .i64 1,.slice none 0 0,.int .i64 3,.slice (some ⟨G,0,none⟩) 1 1] _ HRG.out Tryz.underlying32 rfl codeSize ?_)
 (with_reducible refine HCK.out.mono ?_)
 rintro e w1 ⟨rfl,hb1⟩
 have HB1:=Lib.hid (HB0.out.trans (hb1.mono HB0.out.size))
 have HK1:=Lib.hid ((hb1.block w.heap.size HS0.out).trans HK0.out)
 have HS1:=Lib.hid (Nat.lt_of_lt_of_le HS0.out hb1.size)
 clear hb1 HB0 HK0 HS0 HCK HRG
 clear W0
 have HRG:Hid (w1.rangeAt Bc 0 [.int .i64 2,.int .i64 1,.slice none 0 0]):=fun j u hu=>by
  refine qdS HC.out.2.2.1 (HB1.out.block Bc (range_lt HC.out.2.2.1)) j u ?_
  match j,hu with
  | 0,hu=>exact hu
  | 1,hu=>exact hu
  | 2,hu=>exact hu
  | j+3,hu=>simp at hu
 have HN:Hid (Calls Tryz.prog 72 #[.agg #[.int .i64 2,.int .i64 1,.slice none 0 0]] w1 fun e w'=>(∃ gb,e=.returned (.tuple #[.pointer (some ⟨gb,0,none⟩),.int .i64 0])/\GFUp w' w1.heap.size gb 2 1 lT (logL lT (2 ^ 1)))/\Below w1.heap.size w1 w'):=(fnew_up 2 1 [] none 0 w1 (fun h=>absurd h (by simp)) (by kernel_rfl))
 go_wp2_with (refine wpList_load_mid rfl 29 (.tmp 11) rfl Bc 0 rfl [.int .i64 2,.int .i64 1,.slice none 0 0] _ HRG.out Tryz.underlying29 rfl fieldSize ?_)
 (with_reducible refine HN.out.mono ?_)
 rintro e w2 ⟨⟨gb,rfl,hg⟩,hb2⟩
 have HG:=Lib.hid hg
 have HB2:=Lib.hid (HB1.out.trans (hb2.mono HB1.out.size))
 have HK2:=Lib.hid ((hb2.block w.heap.size HS1.out).trans HK1.out)
 have HS2:=Lib.hid (Nat.lt_of_lt_of_le HS1.out hb2.size)
 have HG12:=Lib.hid hb2.size
 clear hb2 hg HB1 HK1 HN HRG
 go_upto_region 5 with fail
 have HV0:Hid ((((w2.alloc (.cells #[.pointer (some ⟨gb,0,none⟩)] 100)).alloc (.cells #[.int .i64 0] 3)).alloc (.cells #[.nilFunc] 188)).heap[w2.heap.size]?=some (.cells #[.pointer (some ⟨gb,0,none⟩)] 100 (0,0))):=(Below.heap_alloc _ _ _ (by simp;omega)).trans ((Below.heap_alloc _ _ _ (by simp)).trans (heap_alloc_new _ _))
 have HV1:Hid ((((w2.alloc (.cells #[.pointer (some ⟨gb,0,none⟩)] 100)).alloc (.cells #[.int .i64 0] 3)).alloc (.cells #[.nilFunc] 188)).heap[w2.heap.size+1]?=some (.cells #[.int .i64 ((0:Nat):Int)] 3 (0,0))):=(Below.heap_alloc _ _ _ (by simp)).trans (qbM (by simp) _)
 have HV2:Hid ((((w2.alloc (.cells #[.pointer (some ⟨gb,0,none⟩)] 100)).alloc (.cells #[.int .i64 0] 3)).alloc (.cells #[.nilFunc] 188)).heap[w2.heap.size+1+1]?=some (.cells [.nilFunc].toArray 188 (0,0))):=qbM (by simp) _
 have HBV:Hid (Below w2.heap.size w2 (((w2.alloc (.cells #[.pointer (some ⟨gb,0,none⟩)] 100)).alloc (.cells #[.int .i64 0] 3)).alloc (.cells #[.nilFunc] 188))):=(((Below.refl _ _).alloc (Nat.le_refl _) _).alloc (by simp) _).alloc (by simp;omega) _
 generalize ((w2.alloc (.cells #[.pointer (some ⟨gb,0,none⟩)] 100)).alloc (.cells #[.int .i64 0] 3)).alloc (.cells #[.nilFunc] 188)=V at *
 have y2:V.cell? ⟨w2.heap.size+1+1,0,none⟩=some .nilFunc:=cell_of_row _ _ 0 _ _ _ HV2.out
 have f2:V.frozen? ⟨w2.heap.size+1+1,0,none⟩=false:=by simp [World.frozen?,HV2.out]
 go_upto_region 6 with fail
 have HBX:Hid (Below w2.heap.size w2 (V.setCell ⟨w2.heap.size+1+1,0,none⟩ (.func (.func 168) #[] #[.pointer (some ⟨Bc,0,none⟩),.pointer (some ⟨w2.heap.size+1,0,none⟩),.pointer (some ⟨w.heap.size,0,none⟩),.pointer (some ⟨w2.heap.size,0,none⟩),.pointer (some ⟨w2.heap.size+1+1,0,none⟩)]))):=HBV.out.setCell (p:=⟨w2.heap.size+1+1,0,none⟩) (by show w2.heap.size<=w2.heap.size+1+1;omega) _
 have HX0:Hid ((V.setCell ⟨w2.heap.size+1+1,0,none⟩ (.func (.func 168) #[] #[.pointer (some ⟨Bc,0,none⟩),.pointer (some ⟨w2.heap.size+1,0,none⟩),.pointer (some ⟨w.heap.size,0,none⟩),.pointer (some ⟨w2.heap.size,0,none⟩),.pointer (some ⟨w2.heap.size+1+1,0,none⟩)])).heap[w2.heap.size]?=some (.cells #[.pointer (some ⟨gb,0,none⟩)] 100 (0,0))):=(Below.heap_setCell V ⟨w2.heap.size+1+1,0,none⟩ _ w2.heap.size (by show w2.heap.size≠w2.heap.size+1+1;omega)).trans HV0.out
 have HX1:Hid ((V.setCell ⟨w2.heap.size+1+1,0,none⟩ (.func (.func 168) #[] #[.pointer (some ⟨Bc,0,none⟩),.pointer (some ⟨w2.heap.size+1,0,none⟩),.pointer (some ⟨w.heap.size,0,none⟩),.pointer (some ⟨w2.heap.size,0,none⟩),.pointer (some ⟨w2.heap.size+1+1,0,none⟩)])).heap[w2.heap.size+1]?=some (.cells #[.int .i64 ((0:Nat):Int)] 3 (0,0))):=(Below.heap_setCell V ⟨w2.heap.size+1+1,0,none⟩ _ (w2.heap.size+1) (by show w2.heap.size+1≠w2.heap.size+1+1;omega)).trans HV1.out
 have HX2:Hid ((V.setCell ⟨w2.heap.size+1+1,0,none⟩ (.func (.func 168) #[] #[.pointer (some ⟨Bc,0,none⟩),.pointer (some ⟨w2.heap.size+1,0,none⟩),.pointer (some ⟨w.heap.size,0,none⟩),.pointer (some ⟨w2.heap.size,0,none⟩),.pointer (some ⟨w2.heap.size+1+1,0,none⟩)])).heap[w2.heap.size+1+1]?=some (.cells [(.func (.func 168) #[] #[.pointer (some ⟨Bc,0,none⟩),.pointer (some ⟨w2.heap.size+1,0,none⟩),.pointer (some ⟨w.heap.size,0,none⟩),.pointer (some ⟨w2.heap.size,0,none⟩),.pointer (some ⟨w2.heap.size+1+1,0,none⟩)])].toArray 188 (0,0))):=qaT HV2.out 0 _
 generalize V.setCell ⟨w2.heap.size+1+1,0,none⟩ (.func (.func 168) #[] #[.pointer (some ⟨Bc,0,none⟩),.pointer (some ⟨w2.heap.size+1,0,none⟩),.pointer (some ⟨w.heap.size,0,none⟩),.pointer (some ⟨w2.heap.size,0,none⟩),.pointer (some ⟨w2.heap.size+1+1,0,none⟩)])=X at *
 clear y2 f2 HV0 HV1 HV2 HBV
 have hs1:=HS1.out
 have hs2:=HS2.out
 have hs12:w1.heap.size<=w2.heap.size:=HG12.out
 have HXW:Hid (Below w.heap.size w X):=HB2.out.trans (HBX.out.mono HB2.out.size)
 have HWK:Hid (WkS l bo (w2.heap.size+1) Bc w.heap.size w2.heap.size (w2.heap.size+1+1) gb G #[.pointer (some ⟨Bc,0,none⟩),.pointer (some ⟨w2.heap.size+1,0,none⟩),.pointer (some ⟨w.heap.size,0,none⟩),.pointer (some ⟨w2.heap.size,0,none⟩),.pointer (some ⟨w2.heap.size+1+1,0,none⟩)] 0 X):=by
  obtain ⟨n1,n2,hcd,n3,n4,R,ro,cr,n5,n6,hG1,hG2⟩:=HC.out
  have l1:=range_lt hcd
  have l2:=World.block_lt_of_cell? w _ hG1
  have l3:=World.block_lt_of_cell? w _ (hG2 0 (by omega))
  simp only at l2 l3
  refine ⟨⟨n1,n2,by omega⟩,qdS hcd (HXW.out.block Bc l1),⟨⟨n3,n4,by omega⟩,R,ro,cr,⟨n5,n6,by omega⟩,(HXW.out.cell (p:=⟨G,0,none⟩) l2).trans hG1,fun j hj=>(HXW.out.cell (p:=⟨R,ro+j,none⟩) l3).trans (hG2 j hj)⟩,HX1.out,⟨⟨by omega,by omega,by omega⟩,cell_of_row _ _ 0 _ _ _ ((HBX.out.block w.heap.size hs2).trans HK2.out)⟩,⟨⟨by omega,by omega,by omega⟩,cell_of_row _ _ 0 _ _ _ HX0.out⟩,⟨⟨by omega,by omega,by omega⟩,cell_of_row _ _ 0 _ _ _ HX2.out⟩,?_⟩
  obtain ⟨b0,b1,A3,n3,c3,ge,ce,gl,cl,b2,b3,b4,b5,h1,h2,h3⟩:=HG.out
  exact ⟨⟨by omega,by omega,by omega⟩,Nat.lt_of_lt_of_le b1 HBX.out.size,A3,n3,c3,ge,ce,gl,cl,⟨by omega,by omega,by omega⟩,⟨by omega,by omega,by omega⟩,(HBX.out.block gb b1).trans h1,(h2.keep HBX.out).more HBX.out.size,(h3.keep HBX.out).more HBX.out.size⟩
 have HJ0:=Lib.hid (HJ.out 0 w X h0 HXW.out)
 clear HX0 HX1 HX2 HBX HB2 HK2 HG HC
 obtain ⟨i0,hii,hz0,hz1,hz2⟩:=qaG infoInt
 have HF0:Hid (∀ (bw cw:Nat) (W:World),Far l bo (w2.heap.size+1) bw->WkS l bo (w2.heap.size+1) Bc w.heap.size w2.heap.size (w2.heap.size+1+1) gb G #[.pointer (some ⟨Bc,0,none⟩),.pointer (some ⟨w2.heap.size+1,0,none⟩),.pointer (some ⟨w.heap.size,0,none⟩),.pointer (some ⟨w2.heap.size,0,none⟩),.pointer (some ⟨w2.heap.size+1+1,0,none⟩)] 0 W->J 0 W->IntsAt W W.heap.size (some ⟨bw,0,none⟩) (nz (List.replicate 3 0)) ->
  Calls Tryz.prog 168 #[.int .i64 0,.slice (some ⟨bw,0,none⟩) 3 cw,.pointer (some ⟨Bc,0,none⟩),.pointer (some ⟨w2.heap.size+1,0,none⟩),.pointer (some ⟨w.heap.size,0,none⟩),.pointer (some ⟨w2.heap.size,0,none⟩),.pointer (some ⟨w2.heap.size+1+1,0,none⟩)] W (FromOk l bo (w2.heap.size+1) Bc w.heap.size w2.heap.size (w2.heap.size+1+1) gb G #[.pointer (some ⟨Bc,0,none⟩),.pointer (some ⟨w2.heap.size+1,0,none⟩),.pointer (some ⟨w.heap.size,0,none⟩),.pointer (some ⟨w2.heap.size,0,none⟩),.pointer (some ⟨w2.heap.size+1+1,0,none⟩)] J 2 W)) :=
  fun bw cw W hf hs hj ha=>from0_c l bo (w2.heap.size+1) Bc w.heap.size w2.heap.size (w2.heap.size+1+1) gb G w.heap.size J HJ.out (by omega) hl ho HY.out bw cw hf W hs hj ha
 have HS3:Hid (WkS l bo (w2.heap.size+1) Bc w.heap.size w2.heap.size (w2.heap.size+1+1) gb G #[.pointer (some ⟨Bc,0,none⟩),.pointer (some ⟨w2.heap.size+1,0,none⟩),.pointer (some ⟨w.heap.size,0,none⟩),.pointer (some ⟨w2.heap.size,0,none⟩),.pointer (some ⟨w2.heap.size+1+1,0,none⟩)] 0 X.drew):=HWK.out.same SameBut.drew HWK.out.cnt
 have HJ3:=Lib.hid (HJ.out 0 X X.drew HJ0.out (Below.refl _ X).drew)
 have hXs:w.heap.size<=X.drew.heap.size:=HXW.out.size
 have hXl:w2.heap.size+1<X.drew.heap.size:=HWK.out.lt
 clear HJ0 HWK HXW
 refine qaX 4 4 (WkS l bo (w2.heap.size+1) Bc w.heap.size w2.heap.size (w2.heap.size+1+1) gb G #[.pointer (some ⟨Bc,0,none⟩),.pointer (some ⟨w2.heap.size+1,0,none⟩),.pointer (some ⟨w.heap.size,0,none⟩),.pointer (some ⟨w2.heap.size,0,none⟩),.pointer (some ⟨w2.heap.size+1+1,0,none⟩)] 0) [(0,0),(1,1),(0,2),(2,3)] default (by kernel_rfl) (by kernel_rfl) (fun _ _ d _ _ h=>by cases d <;> exact h) HS3.out ?_
 generalize X.drew=Xd at *
 simp only [List.map_cons,List.map_nil,List.getD_cons_zero,List.getD_cons_succ]
 apply qaZ rfl
 . intro V hV
   have y:=hV.frm.2
   go_simp
   rfl
 go_simp
 apply qaR rfl
 . intro V
   go_simp
   rfl
 go_simp
 apply qaZ rfl
 . intro V hV
   have y:V.cell? ⟨Bc,3,none⟩=some (.int .i64 3):=hV.code 3 _ rfl
   go_simp
   rfl
 go_simp
 refine mixf_make rfl (.tmp 19) (.tmp 19) 23 rfl Xd.heap.size 3 i0 (.int .i64 0) 1 Tryz.underlying23 hii hz0 hz1 .i64 .i64 3 rfl rfl (by rw [hz2];omega) (by unfold maxLen;omega) (Nat.le_refl _) ?_
 intro w3 hown hgr
 have hb3:=qaL hgr
 have hr3:=Row.of_make hown
 have HS4:=Lib.hid (HS3.out.grow hb3)
 have HJ4:=Lib.hid (HJ.out 0 Xd w3 HJ3.out (hb3.mono hXs))
 refine ⟨HS4.out,?_⟩
 go_simp
 refine qbZ ?_
 show wpList _ _ _ _ _ _
 have HC4:=Lib.hid (HF0.out Xd.heap.size 3 w3 ⟨by omega,by omega,by omega⟩ HS4.out HJ4.out (hr3.ints hr3.lt.2))
 clear hown hgr hb3 hr3 HS3 HJ3 hii hz0 hz1 hz2
 go_wp2_with fail
 refine HC4.out.mono ?_
 rintro e w4 ⟨rfl,_,hj4,_⟩
 have HJ5:=Lib.hid hj4
 clear hj4 HC4
 go_wp2_with fail
 go_end0
 exact ⟨⟨_,rfl⟩,HJ5.out⟩
end Go.Proofs.YtlmglaonldlanaaGreat
namespace Go.Proofs.YtlmglaonldlanaaGreat
open Go.RowKit Pln
theorem orderM_wide {p m:Nat} (hp:2<=p) (hm:1<=m) (hm2:m<=8):orderM p m=if 256<p ^ m then 0 else ((p ^ m:Nat):Int):=by
 by_cases h:p<=256
 . exact qdD hp h hm hm2
 . rw [qcE (by omega),if_pos]
   have h1:=qcO (p:=p) (k:=1) (m:=m) hp hm
   rw [Nat.pow_one] at h1
   omega
set_option maxHeartbeats 1000000 in
set_option maxRecDepth 100000 in
theorem rorder_c (p m:Int) (A:Option Addr) (n c:Nat) (w:World):Calls Tryz.prog 33 #[.agg #[.int .i64 p,.int .i64 m,.slice A n c]] w fun e w'=>e=.returned (.int .i64 (orderM p m))/\Below w.heap.size w w':=by
 have HB0:Hid (Below w.heap.size w (w.alloc (.cells #[.int .i64 p,.int .i64 m,.slice A n c] 29))):=(Below.refl _ _).alloc (Nat.le_refl _) _
 by_cases h1:p<2
 . have HZ := Lib.hid (qcE (p := p) (m := m) (.inl h1))
   go_enter Tryz.func33,Tryz.ntmps33
   go_wp2_with fail
   go_ret
   exact ⟨qaD HZ.out.symm,HB0.out⟩
 . by_cases h3 : m < 1
   . have HZ := Lib.hid (qcE (p := p) (m := m) (.inr (.inr (.inl h3))))
     go_enter Tryz.func33,Tryz.ntmps33
     go_wp2_with fail
     go_ret
     exact ⟨qaD HZ.out.symm,HB0.out⟩
   . by_cases h4 : 8 < m
     . have HZ := Lib.hid (qcE (p := p) (m := m) (.inr (.inr (.inr h4))))
       go_enter Tryz.func33,Tryz.ntmps33
       go_wp2_with fail
       go_ret
       exact ⟨qaD HZ.out.symm,HB0.out⟩
     . obtain ⟨p,rfl⟩ := Int.eq_ofNat_of_zero_le (by omega : 0 <= p)
       obtain ⟨m,rfl⟩:=Int.eq_ofNat_of_zero_le (by omega:0<=m)
       have hp:2<=p:=by omega
       have hm:1<=m:=by omega
       have hm2:m<=8:=by omega
       have HM:=Lib.hid (orderM_wide hp hm hm2)
       have hd:(256:Int) / (p:Int)=((256 / p:Nat):Int):=rfl
       have HDL:Hid (∀ q:Nat,256 / p<q ↔ 256<q*p):=fun q=>Nat.div_lt_iff_lt_mul (by omega)
       generalize 256 / p=dd at *
       go_enter Tryz.func33,Tryz.ntmps33
       go_wp2_with fail
       have b0:=cell_of_row (w.alloc (.cells #[.int .i64 (p:Int),.int .i64 (m:Int),.slice A n c] 29)) w.heap.size 0 _ _ _ (heap_alloc_new w _)
       have b1:=cell_of_row (w.alloc (.cells #[.int .i64 (p:Int),.int .i64 (m:Int),.slice A n c] 29)) w.heap.size 1 _ _ _ (heap_alloc_new w _)
       generalize w.alloc (.cells #[.int .i64 (p:Int),.int .i64 (m:Int),.slice A n c] 29)=W0 at *
       have b0':W0.cell? ⟨w.heap.size,0,none⟩=some (.int .i64 (p:Int)):=b0
       have b1':W0.cell? ⟨w.heap.size,1,none⟩=some (.int .i64 (m:Int)):=b1
       clear b0 b1
       go_loop [3,4] (fun a i=>∃ k:Nat,k<=m/\p ^ k<=256/\i=.int .i64 k/\a=.int .i64 ((p ^ k:Nat):Int)) (fun _ i=>m-(intOf i).toNat)
       case atStart=>exact ⟨0,by omega,by simp,rfl,by simp⟩
       case round =>
        obtain ⟨k,hk,hq,rfl,rfl⟩:=hrel
        by_cases hlt:k<m
        . have HS : Hid (p ^ (k + 1) = p ^ k * p) := Nat.pow_succ _ _
          have HL:=Lib.hid (qcO hp (show k+1<=m by omega))
          generalize p ^ k=q at *
          have hdl:=HDL.out q
          by_cases hc:dd<q
          . have HQ : Hid (orderM p m = 0) := by
             show _=_
             rw [HM.out,if_pos]
             have h1:=HL.out
             rw [HS.out] at h1
             have:=hdl.1 hc
             omega
            clear hdl
            go_wp2_with fail
            go_ret
            exact ⟨qaD HQ.out.symm,HB0.out⟩
          . have hqp : q * p <= 256 := by omega
            have hmul:(q:Int)*(p:Int)=((q*p:Nat):Int):=(Int.natCast_mul _ _).symm
            clear hdl
            generalize q*p=qp at *
            go_wp2_with fail
            go_round
            case rel=>exact ⟨k+1,by omega,by rw [HS.out];exact hqp,by go_num,by rw [HS.out]⟩
            case measure=>simp [intOf];omega
        . obtain rfl : k = m := by omega
          generalize hqq:p ^ k=q at *
          clear hqq
          go_wp2_with fail
          go_ret
          exact ⟨qaD (by rw [HM.out,if_neg (by omega)]),HB0.out⟩
theorem primeB_iff (n:Nat):primeB n=true ↔ ∀ d,2<=d->d<n->n % d≠0:=by
 unfold primeB
 rw [List.all_eq_true]
 constructor
 . intro h d h1 h2
   have:=h d (List.mem_range.2 h2)
   simp only [Bool.or_eq_true,Nat.blt_eq,bne_iff_ne,ne_eq] at this
   omega
 . intro h d h2
   have h2':=List.mem_range.1 h2
   simp only [Bool.or_eq_true,Nat.blt_eq,bne_iff_ne,ne_eq]
   by_cases h1:d<2
   . exact .inl h1
   . exact .inr (h d (by omega) h2')
set_option maxHeartbeats 1000000 in
theorem rprime_c (n:Nat) (hn:n<=1000000) (w:World):Calls Tryz.prog 34 #[.int .i64 n] w fun e w'=>e=.returned (.bool (primeB n))/\w=w':=by
 have HP:=Lib.hid (primeB_iff n)
 go_enter Tryz.func34,Tryz.ntmps34
 go_wp2_with fail
 go_loop [3] (fun v3=>∃ k:Nat,2<=k/\(k<=n\/k=2)/\v3=.int .i64 k/\∀ d,2<=d->d<k->n % d≠0) (fun v3=>n-(intOf v3).toNat)
 case atStart=>exact ⟨2,by omega,.inr rfl,rfl,fun d h1 h2=>by omega⟩
 case round =>
  obtain ⟨k,hk,hkn,rfl,hall⟩:=hrel
  have HALL:=Lib.hid hall
  clear hall
  by_cases hlt:k<n
  . have T1 : Int.tmod (n : Int) (k : Int) = ((n % k : Nat) : Int) := qbF n k
    have hk0:¬ (k:Int)=0:=by omega
    have HR:Hid (∀ d,d=k->n % d=n % k):=fun d e=>by rw [e]
    generalize hr:n % k=r at *
    have HRE:=Lib.hid hr
    clear hr
    by_cases hz:r=0
    . have HF : Hid (primeB n = false) := by
       show _=_
       rw [<- Bool.not_eq_true,HP.out]
       intro h
       exact h k hk hlt (by rw [HRE.out,hz])
      subst hz
      go_wp2_with fail
      go_ret
      exact ⟨qaO HF.out.symm,rfl⟩
    . have hzb : ((r : Int) == 0) = false := by rw [beq_eq_false_iff_ne];omega
      have HN:Hid (∀ d,2<=d->d<k+1->n % d≠0):=fun d h1 h2=>by
       by_cases hd:d=k
       . rw [hd,HRE.out];exact hz
       . exact HALL.out d h1 (by omega)
      go_wp2_with fail
      go_round
      case rel=>exact ⟨k+1,by omega,.inl (by omega),by go_num,HN.out⟩
      case measure=>simp [intOf];omega
  . have HT : Hid (primeB n = true) := HP.out.2 (fun d h1 h2 => HALL.out d h1 (by omega))
    go_wp2_with fail
    go_ret
    exact ⟨qaO HT.out.symm,rfl⟩
set_option maxHeartbeats 1000000 in
theorem rdigits_c (x p m:Nat) (w:World) (hx:x<=1000000000) (hp:1<=p) (hp2:p<=1000000000) (hm:m<=1000) :
 Calls Tryz.prog 85 #[.int .i64 x,.int .i64 p,.int .i64 m] w fun e w'=>e=.returned (.slice (some ⟨w.heap.size,0,none⟩) m m)/\Row w' w.heap.size w.heap.size m (nz (digs p m x))/\Below w.heap.size w w':=by
 obtain ⟨i0,hi,hz0,hz1,hz2⟩:=qaG infoInt
 have HI:=Lib.hid hi
 have HZ0:=Lib.hid hz0
 have HZ1:=Lib.hid hz1
 have HB2:=Lib.hid (show i0.bytes*m<=281474976710656 by rw [hz2];omega)
 have HB3:=Lib.hid (show m<=maxLen by unfold maxLen;omega)
 clear hi hz0 hz1 hz2
 go_enter Tryz.func85,Tryz.ntmps85
 go_wp2_with (refine wpList_make_full w rfl (.tmp 9) (.tmp 9) 23 rfl w.heap.size 3 i0 (.int .i64 0) 1 Tryz.underlying23 HI.out HZ0.out HZ1.out .i64 .i64 m m m rfl rfl rfl rfl HB2.out HB3.out (Nat.le_refl _) ?_;intro w1 hown hgr)
 have HR:=Lib.hid (Row.of_make hown)
 have HB:=Lib.hid (qaL hgr)
 clear hown hgr
 go_loopw [0,8] (fun v0 v13 wr=>RelDig w p m x v0 v13 wr) (fun _ v13 _=>m-(intOf v13).toNat)
 case atStart=>exact ⟨0,by omega,by simp,rfl,HR.out,HB.out⟩
 case round =>
  obtain ⟨k,hk,rfl,rfl,hrow,hb⟩:=hrel
  have HR2:=Lib.hid hrow
  have HB2':=Lib.hid hb
  have hf:=hrow.frozen k
  have HD:Hid (x / p ^ (k+1)=x / p ^ k / p):=by rw [Nat.pow_succ,<- Nat.div_div_eq_div_mul];rfl
  have hdx:x / p ^ k<=1000000000:=Nat.le_trans (Nat.div_le_self _ _) hx
  have HS:=Lib.hid (fun h=>dgK_set p m x k h)
  have HLEN:=Lib.hid (dgK_len p m x k hk)
  by_cases hlt:k<m
  . have hc := hrow.cell (j := k) (by rw [qaB,HLEN.out];exact hlt)
    clear hrow hb HR HB
    generalize x / p ^ k=y at *
    have hq0:0<=(y:Int) / (p:Int):=Int.ediv_nonneg (by omega) (by omega)
    have hq1:(y:Int) / (p:Int)<=(y:Int):=Int.ediv_le_self _ (by omega)
    go_wp2_with fail
    go_roundw
    case rel =>
     refine ⟨k+1,by omega,by rw [HD.out];go_num,by go_num,?_,(HB2'.out.setCell (Nat.le_refl _) _)⟩
     rw [<- HS.out hlt,<- qbX]
     exact HR2.out.set k _
    case measure=>simp [intOf];omega
  . obtain rfl : k = m := by omega
    clear hrow hb HR HB
    generalize x / p ^ k=y at *
    go_wp2_with fail
    go_ret
    refine ⟨rfl,?_,HB2'.out⟩
    have:=HR2.out
    unfold dgK at this
    rw [Nat.sub_self,List.replicate_zero,List.append_nil] at this
    exact this
end Go.Proofs.YtlmglaonldlanaaGreat
