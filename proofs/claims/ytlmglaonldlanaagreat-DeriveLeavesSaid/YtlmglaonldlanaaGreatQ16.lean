/-
 code.Walk's inner function where all rows are chosen: it yields the word. Plain: the program's field check is the reference's; the operations are the reference's. Plain: weights of combinations of rows over the fields of 2 and 3 elements; rows that prove all weights to be multiples. Plain: messages by their numbers; the least weight bounds all words. Plain: the fields of 2 and 3 elements: their operations are those of numbers modulo 2 and 3; combinations, products of rows. GF.Dot. derive.divisible: true only where the rows prove it.
-/
import Derived.Test.YtlmglaonldlanaaGreatQ01
import Derived.Test.YtlmglaonldlanaaGreatQ15
import Derived.Test.YtlmglaonldlanaaGreatQ09
namespace Go.Proofs.YtlmglaonldlanaaGreat
open Go.RowKit Pln
def Far (l bo Ba b:Nat):Prop:=b≠l/\b≠bo/\b≠Ba
def SameBut (l bo Ba:Nat) (W W':World):Prop:=W.heap.size<=W'.heap.size/\∀ b,b<W.heap.size->Far l bo Ba b->W'.heap[b]?=W.heap[b]?
section
variable {l bo Ba:Nat} {W W' W'':World}
theorem SameBut.refl:SameBut l bo Ba W W:=⟨Nat.le_refl _,fun _ _ _=>rfl⟩
theorem SameBut.trans (h:SameBut l bo Ba W W') (h':SameBut l bo Ba W' W''):SameBut l bo Ba W W'' :=
 ⟨Nat.le_trans h.1 h'.1,fun b hb hf=>(h'.2 b (Nat.lt_of_lt_of_le hb h.1) hf).trans (h.2 b hb hf)⟩
theorem SameBut.of_below (h:Below W.heap.size W W'):SameBut l bo Ba W W':=⟨h.size,fun b hb _=>h.block b hb⟩
theorem SameBut.drew:SameBut l bo Ba W W.drew:=⟨Nat.le_refl _,fun _ _ _=>rfl⟩
theorem SameBut.set (u:Value):SameBut l bo Ba W (W.setCell ⟨Ba,0,none⟩ u):=⟨by simp,fun b _ hf=>Below.heap_setCell W ⟨Ba,0,none⟩ u b hf.2.2⟩
theorem SameBut.cell (h:SameBut l bo Ba W W') {p:Addr} (hf:Far l bo Ba p.block) {v:Value} (hc:W.cell? p=some v):W'.cell? p=some v :=
 (World.cell?_of_block (h.2 p.block (World.block_lt_of_cell? W _ hc) hf)).trans hc
theorem SameBut.range (h:SameBut l bo Ba W W') {b o:Nat} {cs:List Value} (hf:Far l bo Ba b) (hc:W.rangeAt b o cs):W'.rangeAt b o cs:=fun j v hv=>h.cell (p:=⟨b,o+j,none⟩) hf (hc j v hv)
theorem SameBut.ints (h:SameBut l bo Ba W W') {b o:Nat} {zs:List Int} (hf:Far l bo Ba b) (hc:IntsAt W W.heap.size (some ⟨b,o,none⟩) zs):IntsAt W' W'.heap.size (some ⟨b,o,none⟩) zs:=fun hz=>by
 obtain ⟨b',o',he,hb,hj⟩:=hc hz
 injection he with he
 injection he with e1 e2
 subst e1
 subst e2
 exact ⟨b,o,rfl,Nat.lt_of_lt_of_le hb h.1,fun j hjl=>h.cell (p:=⟨b,o+j,none⟩) hf (hj j hjl)⟩
end
def lT:List Nat:=genM (mulM 2 1 (mdOf 1 [])) (2 ^ 1)
def GFFar (l bo Ba gb:Nat) (W:World):Prop :=
 Far l bo Ba gb/\gb<W.heap.size/\∃ (A3:Option Addr) (n3 c3 ge ce gl cl:Nat),Far l bo Ba ge/\Far l bo Ba gl/\W.heap[gb]?=some (.cells #[.int .i64 2,.int .i64 1,.slice A3 n3 c3,.int .i64 ((2 ^ 1:Nat):Int),.slice (some ⟨ge,0,none⟩) lT.length ce,.slice (some ⟨gl,0,none⟩) (logL lT (2 ^ 1)).length cl] 171 (0,0)) /\
  IntsAt W W.heap.size (some ⟨ge,0,none⟩) (nz lT)/\IntsAt W W.heap.size (some ⟨gl,0,none⟩) (nz (logL lT (2 ^ 1)))
theorem GFFar.same {l bo Ba gb:Nat} {W W':World} (h:GFFar l bo Ba gb W) (hs:SameBut l bo Ba W W'):GFFar l bo Ba gb W':=by
 obtain ⟨h0,hg,A3,n3,c3,ge,ce,gl,cl,f1,f2,h1,h2,h3⟩:=h
 exact ⟨h0,Nat.lt_of_lt_of_le hg hs.1,A3,n3,c3,ge,ce,gl,cl,f1,f2,(hs.2 gb hg h0).trans h1,hs.ints f1 h2,hs.ints f2 h3⟩
theorem GFFar.at_ {l bo Ba gb:Nat} {W:World} (h:GFFar l bo Ba gb W):GFAt W W.heap.size gb 2 1 lT (logL lT (2 ^ 1)):=by
 obtain ⟨_,hg,A3,n3,c3,ge,ce,gl,cl,_,_,h1,h2,h3⟩:=h
 exact ⟨hg,A3,n3,c3,ge,ce,gl,cl,h1,h2,h3⟩
structure WkS (l bo Ba Bc By Bg Bf gb G:Nat) (lb:Array Value) (k:Nat) (W:World):Prop where
 fc:Far l bo Ba Bc
 code:W.rangeAt Bc 0 [.int .i64 2,.int .i64 1,.slice none 0 0,.int .i64 3,.slice (some ⟨G,0,none⟩) 1 1]
 gen:Far l bo Ba G/\∃ R ro cr,Far l bo Ba R/\W.cell? ⟨G,0,none⟩=some (.slice (some ⟨R,ro,none⟩) 3 cr)/\∀ j,j<3->W.cell? ⟨R,ro+j,none⟩=some (.int .i64 1)
 cnt:W.heap[Ba]?=some (.cells #[.int .i64 (k:Int)] 3 (0,0))
 yld:Far l bo Ba By/\W.cell? ⟨By,0,none⟩=some (.func (.yield l) #[] #[])
 gee:Far l bo Ba Bg/\W.cell? ⟨Bg,0,none⟩=some (.pointer (some ⟨gb,0,none⟩))
 frm:Far l bo Ba Bf/\W.cell? ⟨Bf,0,none⟩=some (.func (.func 168) #[] lb)
 gf:GFFar l bo Ba gb W
section
variable {l bo Ba Bc By Bg Bf gb G k:Nat} {lb:Array Value} {W W':World}
theorem WkS.same (h:WkS l bo Ba Bc By Bg Bf gb G lb k W) (hs:SameBut l bo Ba W W') {k':Nat} (hc:W'.heap[Ba]?=some (.cells #[.int .i64 (k':Int)] 3 (0,0))):WkS l bo Ba Bc By Bg Bf gb G lb k' W':=by
 obtain ⟨fG,R,ro,cr,fR,h1,h2⟩:=h.gen
 exact ⟨h.fc,hs.range h.fc h.code,⟨fG,R,ro,cr,fR,hs.cell fG h1,fun j hj=>hs.cell fR (h2 j hj)⟩,hc,⟨h.yld.1,hs.cell h.yld.1 h.yld.2⟩,⟨h.gee.1,hs.cell h.gee.1 h.gee.2⟩,⟨h.frm.1,hs.cell h.frm.1 h.frm.2⟩,h.gf.same hs⟩
theorem WkS.lt (h:WkS l bo Ba Bc By Bg Bf gb G lb k W):Ba<W.heap.size:=(Array.getElem?_eq_some_iff.1 h.cnt).1
theorem WkS.grow (h:WkS l bo Ba Bc By Bg Bf gb G lb k W) (hb:Below W.heap.size W W'):WkS l bo Ba Bc By Bg Bf gb G lb k W':=h.same (.of_below hb) ((hb.block Ba h.lt).trans h.cnt)
theorem WkS.set (h:WkS l bo Ba Bc By Bg Bf gb G lb k W) (k':Nat):WkS l bo Ba Bc By Bg Bf gb G lb k' (W.setCell ⟨Ba,0,none⟩ (.int .i64 (k':Int))):=h.same (.set _) (qaT h.cnt 0 _)
end
def RndOk (l bo:Nat) (J:Nat->World->Prop) (k:Nat) (W:World) (e:Ending) (W':World):Prop:=e=.returned (.bool true)/\J (k+1) W'/\W.heap.size<=W'.heap.size/\∀ b,b<W.heap.size->b≠l->b≠bo->W'.heap[b]?=W.heap[b]?
def RndsOk (l bo Bz:Nat) (J:Nat->World->Prop):Prop :=
 ∀ (k g c:Nat) (W:World),k<2->J k W->Bz<=W.heap.size->Row W Bz g c (nz (List.replicate 3 k))->YieldAt Fence.wide 0 Tryz.prog l #[.int .i64 (k:Int),.slice (some ⟨g,0,none⟩) 3 c] W (RndOk l bo J k W)
def FromOk (l bo Ba Bc By Bg Bf gb G:Nat) (lb:Array Value) (J:Nat->World->Prop) (k:Nat) (W:World) (e:Ending) (W':World):Prop :=
 e=.returned (.bool true)/\WkS l bo Ba Bc By Bg Bf gb G lb k W'/\J k W'/\SameBut l bo Ba W W'
set_option maxHeartbeats 2000000 in
set_option maxRecDepth 100000 in
theorem from1_c (l bo Ba Bc By Bg Bf gb G Bz:Nat) (lb:Array Value) (J:Nat->World->Prop) (hJ:∀ j A B,J j A->Below Bz A B->J j B) (hz:Bz<=Ba) (hAl:Ba≠l) (hAo:Ba≠bo) (hY:RndsOk l bo Bz J)
 (k:Nat) (hk:k<2) (bw ow cw:Nat) (hfw:Far l bo Ba bw) (W:World) (hS:WkS l bo Ba Bc By Bg Bf gb G lb k W) (h0:J k W) (hA:IntsAt W W.heap.size (some ⟨bw,ow,none⟩) (nz (List.replicate 3 k))) :
 Calls Tryz.prog 168 #[.int .i64 1,.slice (some ⟨bw,ow,none⟩) 3 cw,.pointer (some ⟨Bc,0,none⟩),.pointer (some ⟨Ba,0,none⟩),.pointer (some ⟨By,0,none⟩),.pointer (some ⟨Bg,0,none⟩),.pointer (some ⟨Bf,0,none⟩)] W (FromOk l bo Ba Bc By Bg Bf gb G lb J (k+1) W):=by
 obtain ⟨k',HK⟩:∃ k',Hid (k'=k+1):=⟨_,rfl⟩
 rw [<- HK.out]
 have ek:(k':Int)=(k:Int)+1:=by have:=HK.out;omega
 have HS:=Lib.hid hS
 have HY:=Lib.hid hY
 have HJ:=Lib.hid hJ
 have hw2:IntKind.i64.wrap ((k':Int)-1)=(k:Int):=by
  rw [IntWalk.i64_in _ (by omega)];omega
 have c4:W.cell? ⟨Bc,4,none⟩=some (.slice (some ⟨G,0,none⟩) 1 1):=HS.out.code 4 _ rfl
 have ca:W.cell? ⟨Ba,0,none⟩=some (.int .i64 (k:Int)):=cell_of_row _ _ 0 _ _ _ HS.out.cnt
 have fa:W.frozen? ⟨Ba,0,none⟩=false:=by simp [World.frozen?,HS.out.cnt]
 have HS1:=Lib.hid (HS.out.set k')
 have HJ1:=Lib.hid (HJ.out k W _ h0 ((Below.refl Bz W).setCell (p:=⟨Ba,0,none⟩) hz (.int .i64 (k':Int))))
 rw [ek] at HS1 HJ1
 have HE1:Hid (SameBut l bo Ba W (W.setCell ⟨Ba,0,none⟩ (.int .i64 ((k:Int)+1)))):=SameBut.set _
 have HA1:=Lib.hid (HE1.out.ints hfw hA)
 have HZ1:Hid (Bz<=(W.setCell ⟨Ba,0,none⟩ (.int .i64 ((k:Int)+1))).heap.size):=by show _<=_;have:=HS.out.lt;simp;omega
 clear hS hY hJ h0 hA
 refine (callsIn_wide (n:=0)).1 ?_
 refine callsIn_of_wp Tryz.func168 rfl trivial ?_
 simp only [Tryz.ntmps168,List.size_toArray,List.length_cons,List.length_nil,Nat.reduceAdd,Nat.reduceSub,Array.replicate_succ,Array.replicate_zero,List.push_toArray,List.append_toArray,List.nil_append,List.cons_append]
 clear ek
 repeat (first | go_values | gi_guarded | gi_step | gi_upon)
 generalize W.setCell ⟨Ba,0,none⟩ (.int .i64 ((k:Int)+1))=W1 at *
 clear c4 ca fa HS
 refine qeL 5 5 (WkS l bo Ba Bc By Bg Bf gb G lb k') [(0,0),(0,1),(1,2),(1,3),(2,4)] default noBar_wide (by kernel_rfl) (by kernel_rfl) (by kernel_rfl) (HS1.out.same SameBut.drew HS1.out.cnt) ?_
 have HJ2:=Lib.hid (HJ.out _ W1 W1.drew HJ1.out (Below.refl Bz W1).drew)
 have HE2:Hid (SameBut l bo Ba W W1.drew):=HE1.out.trans .drew
 have HZ2:Hid (Bz<=W1.drew.heap.size):=HZ1.out
 have HC:=Lib.hid (sclone_c (nz (List.replicate 3 k)) (some ⟨bw,ow,none⟩) cw W1.drew (HA1.out.grow (Nat.le_refl _) (Below.refl _ W1).drew) (by rw [qaB,List.length_replicate];omega) (by rw [qaB,List.length_replicate];omega))
 have HLEN:Hid ((nz (List.replicate 3 k)).length=3):=by show _=_;rw [qaB,List.length_replicate]
 rw [HLEN.out] at HC
 have HS2:Hid (WkS l bo Ba Bc By Bg Bf gb G lb k' W1.drew):=HS1.out.same SameBut.drew HS1.out.cnt
 clear HJ1 HE1 HZ1 HA1 HS1
 generalize W1.drew=Wd at *
 simp only [List.map_cons,List.map_nil,List.getD_cons_zero,List.getD_cons_succ]
 apply qaZ rfl
 . intro V hV
   have y:=hV.yld.2
   go_simp
   rfl
 go_simp
 apply qaZ rfl
 . intro V hV
   have y:V.cell? ⟨Ba,0,none⟩=some (.int .i64 (k':Int)):=cell_of_row _ _ 0 _ _ _ hV.cnt
   go_simp
   rfl
 go_simp
 apply qaR rfl
 . intro V
   go_simp
   rfl
 go_simp
 apply qaR rfl
 . intro V
   go_simp
   rfl
 go_simp
 apply qcF rfl
 . go_simp
   exact ⟨rfl,rfl⟩
 with_reducible refine HC.out.mono ?_
 rintro e W2 ⟨⟨g,c,rfl,hrow⟩,hb2⟩
 have HS3:=Lib.hid (HS2.out.grow hb2)
 have HJ3:=Lib.hid (HJ.out _ Wd W2 HJ2.out (hb2.mono HZ2.out))
 have HE3:Hid (SameBut l bo Ba W W2):=HE2.out.trans (.of_below hb2)
 have HZ3:Hid (Bz<=W2.heap.size):=Nat.le_trans HZ2.out hb2.size
 have HR3:=Lib.hid (hrow.base (Nat.le_trans HZ2.out hrow.lt.1))
 refine ⟨_,rfl,HS3.out,?_⟩
 go_simp
 refine qbZ ?_
 show wpListIn _ _ _ _ _ _ _ _
 clear hrow hb2 HS2 HJ2 HE2 HZ2 HC
 obtain ⟨fn,tmps,assign,body,hy,hR⟩:=HY.out k g c W2 hk HJ3.out HZ3.out HR3.out
 gi_wp2_with ((try refine ⟨rfl,?_⟩);refine hR.mono ?_;clear hR;rintro e W3 ⟨rfl,hJ3,hsz3,hsm3⟩)
 go_ret
 have HE4:SameBut l bo Ba W2 W3:=⟨hsz3,fun b hb hf=>hsm3 b hb hf.1 hf.2.1⟩
 exact ⟨rfl,HS3.out.same HE4 ((hsm3 Ba HS3.out.lt hAl hAo).trans HS3.out.cnt),HK.out ▸ hJ3,HE3.out.trans HE4⟩
end Go.Proofs.YtlmglaonldlanaaGreat
namespace Go.Proofs.YtlmglaonldlanaaGreat
open Go.RowKit Pln
theorem chkP_mem {t:List (Nat × Nat)} (h:chkP t=true) {p:Nat} (hp:(t.map Prod.fst).elem p=true):∃ x,okP p x=true:=by
 have hm:p∈t.map Prod.fst:=List.elem_iff.1 hp
 obtain ⟨e,he,rfl⟩:=List.mem_map.1 hm
 exact ⟨e.2,List.all_eq_true.1 h e he⟩
theorem gen_prime {p:Nat} (hq:p<=256) (hp:primeP p=true):genM (mulM p 1 [0]) p≠[]:=by
 have h:=List.all_eq_true.1 primes_are p (List.mem_range.2 (by omega))
 unfold primeP at hp
 rw [hp,Bool.not_true,Bool.false_or] at h
 obtain ⟨x,hx⟩:=chkP_mem ok_primes h
 exact okP_spec hq hx
theorem small_primes:∀ p,p<17->primeP p=true->p=2\/p=3\/p=5\/p=7\/p=11\/p=13:=by decide +kernel
theorem pow_gt {p k m b:Nat} (hp:2<=p) (hb:b<p ^ k) (h:p ^ m<=b):m<k:=by
 rcases Nat.lt_or_ge m k with h1 | h1
 . exact h1
 . have := qcO hp h1
   omega
theorem gen_irr_all {p m:Nat} (hs:Small p m) (hpr:primeP p=true) (hm:2<=m) {md:List Nat} (hmd:Dig p m md):(genM (mulM p m md) (p ^ m)≠[]) ↔ irrM p md=true:=by
 obtain ⟨p1,p2,m1,m2,q⟩:=hs
 have hp17:p<17:=by
  have h1:=qcO (p:=p) p1 hm
  rcases Nat.lt_or_ge p 17 with h | h
  . exact h
  . have := Nat.mul_le_mul h h
    rw [Nat.pow_two] at h1
    omega
 rcases small_primes p hp17 hpr with rfl | rfl | rfl | rfl | rfl | rfl
 . rcases (by omega : m = 2 \/ m = 3 \/ m = 4 \/ m = 5 \/ m = 6 \/ m = 7 \/ m = 8) with rfl | rfl | rfl | rfl | rfl | rfl | rfl
   . exact qcH (by decide) (by decide) (by decide) (by decide +kernel) ok_2_2 hmd
   . exact qcH (by decide) (by decide) (by decide) (by decide +kernel) ok_2_3 hmd
   . exact qcH (by decide) (by decide) (by decide) (by decide +kernel) ok_2_4 hmd
   . exact qcH (by decide) (by decide) (by decide) (by decide +kernel) ok_2_5 hmd
   . exact qcH (by decide) (by decide) (by decide) (by decide +kernel) ok_2_6 hmd
   . exact qcH (by decide) (by decide) (by decide) (by decide +kernel) ok_2_7 hmd
   . exact qcH (by decide) (by decide) (by decide) (by decide +kernel) ok_2_8 hmd
 . have := pow_gt (p := 3) (k := 6) (m := m) (b := 256) (by decide) (by decide) q
   rcases (by omega:m=2\/m=3\/m=4\/m=5) with rfl | rfl | rfl | rfl
   . exact qcH (by decide) (by decide) (by decide) (by decide +kernel) ok_3_2 hmd
   . exact qcH (by decide) (by decide) (by decide) (by decide +kernel) ok_3_3 hmd
   . exact qcH (by decide) (by decide) (by decide) (by decide +kernel) ok_3_4 hmd
   . exact qcH (by decide) (by decide) (by decide) (by decide +kernel) ok_3_5 hmd
 . have := pow_gt (p := 5) (k := 4) (m := m) (b := 256) (by decide) (by decide) q
   rcases (by omega:m=2\/m=3) with rfl | rfl
   . exact qcH (by decide) (by decide) (by decide) (by decide +kernel) ok_5_2 hmd
   . exact qcH (by decide) (by decide) (by decide) (by decide +kernel) ok_5_3 hmd
 . have := pow_gt (p := 7) (k := 3) (m := m) (b := 256) (by decide) (by decide) q
   obtain rfl:m=2:=by omega
   exact qcH (by decide) (by decide) (by decide) (by decide +kernel) ok_7_2 hmd
 . have := pow_gt (p := 11) (k := 3) (m := m) (b := 256) (by decide) (by decide) q
   obtain rfl:m=2:=by omega
   exact qcH (by decide) (by decide) (by decide) (by decide +kernel) ok_11_2 hmd
 . have := pow_gt (p := 13) (k := 3) (m := m) (b := 256) (by decide) (by decide) q
   obtain rfl:m=2:=by omega
   exact qcH (by decide) (by decide) (by decide) (by decide +kernel) ok_13_2 hmd
theorem not_nil {α:Type} {l:List α} (h:l≠[]):(!l.isEmpty)=true:=by
 cases l with
 | nil=>exact absurd rfl h
 | cons=>rfl
theorem qeY (p m:Int) (mod:List Int):fieldOK p m mod=(shapeM p m mod && (decide (m=1) || irrM p.toNat (mod.map Int.toNat))):=by
 unfold fieldOK
 cases hsh:shapeM p m mod
 . simp
 . have hs := qbJ hsh
   rw [Bool.true_and,Bool.true_and]
   by_cases hm:m=1
   . subst hm
     have h1:mdOf 1 mod=[0]:=by simp [mdOf]
     have h2:(1:Int).toNat=1:=rfl
     rw [h1,h2,Nat.pow_one,not_nil (gen_prime hs.small.p2 hs.prime)]
     simp
   . have hmm : mdOf m mod = mod.map Int.toNat := by simp [mdOf,hm]
     have hdig:Dig p.toNat m.toNat (mdOf m mod):=⟨by rw [hmm,List.length_map,hs.len hm],hs.lt⟩
     have hm2:2<=m.toNat:=by have h1:=hs.small.m1;have h2:=hs.m0;omega
     have h:=gen_irr_all hs.small hs.prime hm2 hdig
     rw [<- hmm,decide_eq_false hm,Bool.false_or]
     by_cases hi:irrM p.toNat (mdOf m mod)=true
     . rw [hi,not_nil (h.2 hi)]
     . have hn : genM (mulM p.toNat m.toNat (mdOf m mod)) (p.toNat ^ m.toNat) = [] := Classical.byContradiction fun h' => hi (h.1 h')
       rw [hn,(Bool.not_eq_true _).mp hi]
       rfl
def refMul (p m:Nat) (md:List Nat) (x y:Nat):Nat:=val p (refMulL p m md (digs p m x) (digs p m y))
def refOps (p m:Nat) (md:List Nat):Ops:=⟨addD p m,refMul p m md,negD p m,refInv (refMul p m md) (p ^ m)⟩
theorem refMul_eq {p m:Nat} (hp:0<p) (hm:0<m) {md:List Nat} (hmd:md.length=m):refMul p m md=mulM p m md:=by
 funext x y
 unfold refMul mulM
 rw [refMulL_eq hp hm md _ _ hmd (qaK p m x) (qaK p m y)]
theorem ops_eq {p m:Nat} {md l:List Nat} (h:FT p m md l) (hmd:md.length=m):OpsEq (p ^ m) (opsT p m l) (refOps p m md) where
 add x y _ _:=⟨rfl,qeO (by have:=h.small.p1;omega) m x y⟩
 mul x y hx hy:=⟨by
  show mulT l (logL l (p ^ m)) (p ^ m) x y=refMul p m md x y
  rw [refMul_eq (by have:=h.small.p1;omega) h.small.m1 hmd]
  exact h.tab.mul_eq (qaU (by have:=h.small.p1;omega) h.small.m1 md) hx hy,qcZ h hx hy⟩
 neg x _:=⟨rfl,qfN (by have:=h.small.p1;omega) m x⟩
 inv x hx h0:=⟨by
  show invT l (logL l (p ^ m)) (p ^ m) x=refInv (refMul p m md) (p ^ m) x
  rw [refMul_eq (by have:=h.small.p1;omega) h.small.m1 hmd]
  exact (refInv_eq (qaU (by have:=h.small.p1;omega) h.small.m1 md) h.tab h0 hx).symm,(h.tab.inv (qaU (by have:=h.small.p1;omega) h.small.m1 md) h0 hx).2.1⟩
end Go.Proofs.YtlmglaonldlanaaGreat
namespace Go.Proofs.YtlmglaonldlanaaGreat
namespace Dv
def wt:List Nat->Nat
 | []=>0
 | x :: r=>(if x=0 then 0 else 1)+wt r
def addTo (q:Nat):List Nat->Nat->List Nat->List Nat
 | o :: u,a,y :: v=>(o+a*y % q) % q :: addTo q u a v
 | _,_,_=>[]
def comb (q:Nat):List Nat->List Nat->List (List Nat)->List Nat
 | out,x :: xs,r :: rs=>comb q (if x=0 then out else addTo q out x r) xs rs
 | out,_,_=>out
def Ok (q n:Nat) (v:List Nat):Prop:=v.length=n/\∀ x∈v,x<q
end Dv
end Go.Proofs.YtlmglaonldlanaaGreat
namespace Go.Proofs.YtlmglaonldlanaaGreat
namespace Dv
end Dv
end Go.Proofs.YtlmglaonldlanaaGreat
namespace Go.Proofs.YtlmglaonldlanaaGreat
open Pln
namespace Dv
structure Ar (p:Nat) (O:Ops):Prop where
 pos:0<p
 add:∀ x y,x<p->y<p->O.add x y=(x+y) % p
 mul:∀ x y,x<p->y<p->O.mul x y=x*y % p
def combO (O:Ops):List Nat->List Nat->List (List Nat)->List Nat
 | out,x :: xs,r :: rs=>combO O (if x=0 then out else addRow O out x r) xs rs
 | out,_,_=>out
def dotO (O:Ops):Nat->List Nat->List Nat->Nat
 | s,x :: r,y :: t=>dotO O (O.add s (O.mul x y)) r t
 | s,_,_=>s
end Dv
end Go.Proofs.YtlmglaonldlanaaGreat
namespace Go.Proofs.YtlmglaonldlanaaGreat
open Go.RowKit Pln
def RelDot (w:World) (q:Nat) (O:Ops) (u v:List Nat) (v7 v14:Value) (wr:World):Prop :=
 ∃ k s n:Nat,k<=u.length/\v7=.int .i64 s/\v14=.int .i64 k/\s<q/\Dv.dotO O s (u.drop k) (v.drop k)=Dv.dotO O 0 u v/\wr=w.drewN n
theorem dotO_step {O:Ops} {u v:List Nat} {k s r:Nat} (hu:k<u.length) (hv:k<v.length) (h:Dv.dotO O s (u.drop k) (v.drop k)=r):Dv.dotO O (O.add s (O.mul (u.getD k 0) (v.getD k 0))) (u.drop (k+1)) (v.drop (k+1))=r:=by
 rw [List.drop_eq_getElem_cons hu,List.drop_eq_getElem_cons hv] at h
 unfold Dv.dotO at h
 have e1:u.getD k 0=u[k]:=by simp [List.getD,hu]
 have e2:v.getD k 0=v[k]:=by simp [List.getD,hv]
 rw [e1,e2]
 exact h
set_option maxHeartbeats 1000000 in
set_option maxRecDepth 100000 in
theorem dot_c (gb p m B:Nat) (md l u v:List Nat) (Au Av:Option Addr) (cu cv:Nat) (w:World) (hF:FT p m md l) (hG:GFAt w B gb p m l (logL l (p ^ m))) (hlen:v.length=u.length) (hu:∀ x∈u,x<p ^ m) (hv:∀ x∈v,x<p ^ m) (hU:IntsAt w B Au (nz u)) (hV:IntsAt w B Av (nz v)) (hl:u.length<=1000) :
 Calls Tryz.prog 138 #[.pointer (some ⟨gb,0,none⟩),.slice Au u.length cu,.slice Av u.length cv] w (Quiet (.int .i64 ((Dv.dotO (opsT p m l) 0 u v:Nat):Int)) w):=by
 have hq0:0<p ^ m:=by have:=hF.small.p1;exact Nat.pow_pos (by omega)
 have HC:Hid (∀ x y n,x<p ^ m->y<p ^ m->Calls Tryz.prog 142 #[.pointer (some ⟨gb,0,none⟩),.int .i64 (x:Int),.int .i64 (y:Int)] (w.drewN n) (Quiet (.int .i64 (((opsT p m l).mul x y:Nat):Int)) (w.drewN n))) :=
  fun x y n hx hy=>mul_c x y gb p m B md l (w.drewN n) hF hG hx hy
 have HD:Hid (∀ x y n,x<p ^ m->y<p ^ m->Calls Tryz.prog 143 #[.pointer (some ⟨gb,0,none⟩),.int .i64 (x:Int),.int .i64 (y:Int)] (w.drewN n) (Quiet (.int .i64 (((opsT p m l).add x y:Nat):Int)) (w.drewN n))) :=
  fun x y n hx hy=>add_c x y gb p m B l _ (w.drewN n) hF.small hG hx hy
 have HML:Hid (∀ x y,x<p ^ m->y<p ^ m->(opsT p m l).mul x y<p ^ m):=fun x y hx hy=>qcZ hF hx hy
 have HAL:Hid (∀ x y,x<p ^ m->y<p ^ m->(opsT p m l).add x y<p ^ m):=fun x y _ _=>qeO (by have:=hF.small.p1;omega) m x y
 have HVQ:Hid (∀ k,k<u.length->v.getD k 0<p ^ m):=fun k hk=>by
  have hk2:k<v.length:=by omega
  have:v.getD k 0=v[k]:=by simp [List.getD,hk2]
  rw [this]
  exact hv _ (List.getElem_mem hk2)
 have HUQ:Hid (∀ k,k<u.length->u.getD k 0<p ^ m):=fun k hk=>by
  have:u.getD k 0=u[k]:=by simp [List.getD,hk]
  rw [this]
  exact hu _ (List.getElem_mem hk)
 have HU:=Lib.hid hU
 have HV:=Lib.hid hV
 have HLEN:=Lib.hid hlen
 clear hF hG hv hu hU hV hlen
 generalize opsT p m l=O at *
 generalize p ^ m=q at *
 go_enter Tryz.func138,Tryz.ntmps138
 go_wp2_with fail
 go_loopw [7,14] (fun v7 v14 wr=>RelDot w q O u v v7 v14 wr) (fun _ v14 _=>u.length-(intOf v14).toNat)
 case atStart=>exact ⟨0,0,0,by omega,rfl,rfl,hq0,rfl,rfl⟩
 case round =>
  obtain ⟨k,s,n,hk,rfl,rfl,hs,hinv,rfl⟩:=hrel
  have HINV:=Lib.hid hinv
  clear hinv
  by_cases hlt:k<u.length
  . obtain ⟨bu,ou,rfl,hbu,hcu⟩ := HU.out.at_ (k := k) (by rw [qaB];exact hlt)
    obtain ⟨bv,ov,rfl,hbv,hcv⟩:=HV.out.at_ (k:=k) (by rw [qaB,HLEN.out];exact hlt)
    rw [qaF] at hcu hcv
    have HST:=Lib.hid (dotO_step hlt (by rw [HLEN.out];exact hlt) HINV.out)
    have hx:=HUQ.out k hlt
    have hy:=HVQ.out k hlt
    have k0:(0:Int)<=(k:Int):=by omega
    have k1:(k:Int)<(u.length:Int):=by omega
    have hw:IntKind.i64.wrap ((k:Int)+1)=(k:Int)+1:=IntWalk.i64_in _ (by omega)
    generalize u.getD k 0=x at *
    generalize v.getD k 0=y at *
    have HCU:Hid (∀ W,SDrew (w.drewN n) W->W.cell? ⟨bu,ou+k,none⟩=some (.int .i64 x)/\W.cell? ⟨bv,ov+k,none⟩=some (.int .i64 y)):=fun W ⟨j,hW⟩=>by
     subst hW
     exact ⟨hcu,hcv⟩
    have HM:Hid (∀ W,SDrew (w.drewN n) W->Calls Tryz.prog 142 #[.pointer (some ⟨gb,0,none⟩),.int .i64 (x:Int),.int .i64 (y:Int)] W fun e w'=>e=.returned (.int .i64 ((O.mul x y:Nat):Int))/\SDrew (w.drewN n) w'):=fun W ⟨j,hW⟩=>by
     subst hW
     rw [World.drewN_drewN]
     refine (HC.out x y _ hx hy).mono ?_
     rintro e w' ⟨he,i,rfl⟩
     exact ⟨he,j+i,by rw [World.drewN_drewN,World.drewN_drewN,Nat.add_assoc]⟩
    have hmq:=HML.out x y hx hy
    have HAD:Hid (∀ W,SDrew (w.drewN n) W->Calls Tryz.prog 143 #[.pointer (some ⟨gb,0,none⟩),.int .i64 (s:Int),.int .i64 ((O.mul x y:Nat):Int)] W fun e w'=>e=.returned (.int .i64 ((O.add s (O.mul x y):Nat):Int))/\SDrew (w.drewN n) w'):=fun W ⟨j,hW⟩=>by
     subst hW
     rw [World.drewN_drewN]
     refine (HD.out s _ _ hs hmq).mono ?_
     rintro e w' ⟨he,i,rfl⟩
     exact ⟨he,j+i,by rw [World.drewN_drewN,World.drewN_drewN,Nat.add_assoc]⟩
    have hsq:=HAL.out s _ hs hmq
    clear hcu hcv HC HD HU HV
    go_upto_region 5 with fail
    refine qaH (SDrew (w.drewN n)) (by kernel_rfl) (by kernel_rfl) ⟨1,rfl⟩ ?_
    repeat (first
     | (apply qaM rfl
        . intro W hS
          obtain ⟨y0,y1⟩:=HCU.out W hS
          go_simp
          try rfl
        go_simp)
     | (apply qaV rfl
        . intro W hS
          go_simp
          exact ⟨rfl,rfl⟩
        . intro W hS
          first
           | exact HM.out W hS
           | exact HAD.out W hS
        go_simp))
    refine qaJ ?_
    intro w2 hS2
    obtain ⟨j,rfl⟩:=hS2
    rw [World.drewN_drewN]
    go_wp2_with fail
    go_roundw
    case rel=>exact ⟨k+1,_,_,by omega,rfl,by go_num,hsq,HST.out,rfl⟩
    case measure=>simp [intOf];omega
  . obtain rfl : k = u.length := by omega
    have HE:Hid (Dv.dotO O 0 u v=s):=by
     show _=_
     have:=HINV.out
     rw [List.drop_length] at this
     rw [<- this]
     rfl
    go_wp2_with fail
    go_ret
    exact ⟨qaD (by rw [HE.out]),n,rfl⟩
end Go.Proofs.YtlmglaonldlanaaGreat
namespace Go.Proofs.YtlmglaonldlanaaGreat
open Go.RowKit Pln
theorem gorder_e (gb B p m:Nat) (l lg:List Nat) (w:World) (hG:GFAt w B gb p m l lg) :
 Calls Tryz.prog 120 #[.pointer (some ⟨gb,0,none⟩)] w fun e w'=>e=.returned (.int .i64 ((p ^ m:Nat):Int))/\w=w':=by
 obtain ⟨_,_,_,_,_,_,_,_,h3,_,_,_,_⟩:=hG.cells
 generalize p ^ m=q at *
 clear hG
 go_enter Tryz.func120,Tryz.ntmps120
 go_wp2_with fail
 go_ret
 exact ⟨rfl,rfl⟩
theorem wt_append:∀ u v:List Nat,Dv.wt (u++v)=Dv.wt u+Dv.wt v
 | [],v=>by simp [Dv.wt]
 | x :: r,v => by
   show (if x=0 then 0 else 1)+Dv.wt (r++v)=(if x=0 then 0 else 1)+Dv.wt r+Dv.wt v
   rw [wt_append r v,Nat.add_assoc]
theorem wt_take {v:List Nat} {j:Nat} (hj:j<v.length):Dv.wt (v.take (j+1))=Dv.wt (v.take j)+if v.getD j 0=0 then 0 else 1:=by
 rw [List.take_add_one,List.getElem?_eq_getElem hj,wt_append]
 have e:v.getD j 0=v[j]:=by simp [List.getD,hj]
 rw [e]
 simp [Dv.wt]
end Go.Proofs.YtlmglaonldlanaaGreat
