/-
 The program's field: the powers of an element.
-/
import Derived.Maps.AppendAt
import Derived.Test.YtlmglaonldlanaaGreatQ04
namespace Go.Proofs.YtlmglaonldlanaaGreat
open Go.RowKit Pln
theorem infoBool:(Tryz.prog.info? 4).map (fun i=>(i.zero,i.size,i.bytes))=some (some (.bool false),1,1):=by kernel_rfl
theorem fieldSize:(Tryz.prog.info? 29).map (·.size)=some 3:=by kernel_rfl
theorem qaC {w:World} {b:Nat} {cs:List Value} {t:TypeId} {fr:Nat × Nat} (h:w.heap[b]?=some (.cells cs.toArray t fr)):w.rangeAt b 0 cs:=by
 intro j v hv
 rw [Nat.zero_add,cell_of_row _ _ j _ _ _ h,List.getElem?_toArray]
 exact hv
def BRow (w:World) (B g c:Nat) (bs:List Bool):Prop:=w.ownsRow B 4 1 (.slice (some ⟨g,0,none⟩) bs.length c) bs.length (bs.map Value.bool)
section
variable {w w':World} {B g c:Nat} {bs:List Bool}
theorem BRow.cell (h:BRow w B g c bs) {j:Nat} (hj:j<bs.length):w.cell? ⟨g,j,none⟩=some (.bool (bs.getD j false)):=by
 rw [World.ownsRow.cellAt h j (by omega)]
 simp [List.getD,hj]
theorem BRow.frozen (h:BRow w B g c bs) (j:Nat):w.frozen? ⟨g,j,none⟩=false:=World.ownsRow.frozenAt h j
theorem BRow.lt (h:BRow w B g c bs):B<=g/\g<w.heap.size:=World.ownsRow.lt h g rfl
theorem BRow.set (h:BRow w B g c bs) (j:Nat) (x:Bool):BRow (w.setCell ⟨g,j,none⟩ (.bool x)) B g c (bs.set j x):=by
 have:=(World.ownsRow.stored h j (.bool x)).1
 unfold BRow
 rw [List.length_set,List.map_set]
 exact this
theorem BRow.grown {row:Option Nat} (h:BRow w B g c bs) (hg:w.grownBy w' row) (hne:some g≠row):BRow w' B g c bs:=World.ownsRow.kept h hg (.inr hne)
theorem BRow.below (h:BRow w B g c bs) {B':Nat} (hb:Below B' w w') (hg:g<B'):BRow w' B g c bs:=by
 refine ⟨h.1,?_⟩
 rcases h.2 with ⟨h1,_⟩ | ⟨g',cap,cur,hv,hB,hh,r⟩
 . cases h1
 . have : g' = g := by
    simp only [Value.slice.injEq,Option.some.injEq,Addr.mk.injEq,and_true,true_and] at hv
    exact hv.1.symm
   exact .inr ⟨g',cap,cur,hv,hB,(hb.block g' (by omega)).trans hh,r⟩
theorem BRow.alloc (h:BRow w B g c bs) (o:Obj):BRow (w.alloc o) B g c bs:=World.ownsRow.alloc h o
theorem row_brow_ne {B' g' c':Nat} {zs:List Int} (h:Row w B' g' c' zs) (h':BRow w B g c bs):g'≠g:=by
 rintro rfl
 rcases h.2 with ⟨h1,_⟩ | ⟨g1,cap,cur,hv,_,hh,_⟩
 . cases h1
 . rcases h'.2 with ⟨h1,_⟩ | ⟨g2,cap2,cur2,hv2,_,hh2,_⟩
   . cases h1
   . simp only [Value.slice.injEq,Option.some.injEq,Addr.mk.injEq,and_true,true_and] at hv hv2
     obtain ⟨rfl,_⟩:=hv
     obtain ⟨rfl,_⟩:=hv2
     rw [hh] at hh2
     injection hh2 with hh2
     injection hh2 with _ ht
     exact absurd ht (by decide)
theorem BRow.of_make {n:Nat} (h:w.ownsRow B 4 1 (.slice (some ⟨g,0,none⟩) n c) n (madeCells (Value.bool false).cells (n*1)).toList):BRow w B g c (List.replicate n false):=by
 unfold BRow
 have e:(madeCells (Value.bool false).cells (n*1)).toList=(List.replicate n false).map Value.bool:=by
  apply List.ext_getElem
  . simp [madeCells]
  . intro i h1 h2
    simp [madeCells,Value.cells,Nat.mod_one]
 rw [List.length_replicate,<- e]
 exact h
theorem BRow.of_made {n:Nat} (h:w.ownsRow B 4 1 (.slice (some ⟨g,0,none⟩) n c) n (madeCells #[Value.bool false] n).toList):BRow w B g c (List.replicate n false):=BRow.of_make (by rw [Nat.mul_one];exact h)
end
theorem row_lit (W:World) (z:Int) {B:Nat} (hB:B<=W.heap.size):Row (W.alloc (.cells #[.int .i64 z] 3)) B W.heap.size 1 [z] :=
 ⟨by simp,.inr ⟨W.heap.size,1,#[.int .i64 z],rfl,hB,heap_alloc_new W _,Nat.le_refl _,by unfold maxLen;omega,rfl,rfl⟩⟩
def OwnI (w:World) (B:Nat) (v:Value) (zs:List Int):Prop:=∃ g c,v=.slice (some ⟨g,0,none⟩) zs.length c/\Row w B g c zs
theorem own_of_row {w:World} {B g c k:Nat} {zs:List Int} (h:Row w B g c zs) (hk:zs.length=k) {o:Obj}:(w.alloc o).ownsRow B 3 1 (.slice (some ⟨g,0,none⟩) k c) k (zs.map (Value.int .i64)):=by
 subst hk
 exact World.ownsRow.alloc h o
theorem own_of_append {w:World} {B k:Nat} {v:Value} {l:List Nat} {y:Nat} (h:w.ownsRow B 3 1 v (k+1) ((nz l).map (Value.int .i64)++[.int .i64 (y:Int)])) (hk:(nz l).length=k):OwnI w B v (nz (l++[y])):=by
 obtain ⟨g,cap,rfl,_,_⟩:=h.form (by omega)
 have e:nz (l++[y])=nz l++[(y:Int)]:=by simp [nz]
 refine ⟨g,cap,by rw [e,List.length_append,hk];rfl,?_⟩
 unfold Row
 rw [e,List.length_append,hk,List.map_append]
 exact h
theorem OwnI.below {w w':World} {B:Nat} {v:Value} {zs:List Int} (h:OwnI w B v zs) (hb:Below w.heap.size w w'):OwnI w' B v zs:=by
 obtain ⟨g,c,rfl,hr⟩:=h
 exact ⟨g,c,rfl,hr.below hb hr.lt.2⟩
def Seen (q:Nat) (bs:List Bool) (acc:List Nat):Prop:=bs.length=q/\∀ a,a<q->(bs.getD a false=true ↔ a∈acc)
theorem Seen.set {q:Nat} {bs:List Bool} {acc:List Nat} (h:Seen q bs acc) {y:Nat} (hy:y<q):Seen q (bs.set y true) (acc++[y]):=by
 refine ⟨by simp [h.1],fun a ha=>?_⟩
 by_cases he:a=y
 . subst he
   simp [List.getD,h.1,hy]
 . have h1 := h.2 a ha
   simp only [List.getD] at h1 ⊢
   rw [List.getElem?_set_ne (by omega),h1]
   simp [he]
def RelP (w W0:World) (q x gs:Nat) (mul:Nat->Nat->Nat) (g:Nat) (v7 v9:Value) (wr:World):Prop :=
 ∃ k bs,1<=k/\k+g=q/\Pln.Good mul x k/\pows mul x (q+1-k) (pw mul x k) (pl mul x k)=powers mul q x/\v9=.int .i64 ((pw mul x k:Nat):Int) /\
  OwnI wr (w.heap.size+1) v7 (nz (pl mul x k))/\BRow wr (w.heap.size+1) gs q bs/\Seen q bs (pl mul x k)/\Below (w.heap.size+1) W0 wr
set_option maxHeartbeats 1000000 in
set_option maxRecDepth 100000 in
theorem powers_c (p m x:Nat) (A:Option Addr) (n c:Nat) (md:List Nat) (w:World) (hs:Small p m) (hM:ModAt w w.heap.size m A n md) (hmd:∀ d∈md,d<p) (hx:x<p ^ m) :
 Calls Tryz.prog 154 #[.agg #[.int .i64 p,.int .i64 m,.slice A n c],.int .i64 ((p ^ m:Nat):Int),.int .i64 x] w fun e w'=>(∃ v,e=.returned v/\OwnI w' w.heap.size v (nz (powers (mulM p m md) (p ^ m) x)))/\Below w.heap.size w w':=by
 have HSM:=Lib.hid hs
 have HM:=Lib.hid hM
 have HMD:=Lib.hid hmd
 have HMON:=Lib.hid (qaU (p:=p) (m:=m) (by have:=hs.p1;omega) hs.m1 md)
 have hq1:=HMON.out.q1
 have hq2:=hs.q
 have HXP:Hid (x<p ^ m):=hx
 clear hs hM hmd
 obtain ⟨i0,hi,hz0,hz1,hz2⟩:=qaG infoInt
 have HI:=Lib.hid hi
 have HZ0:=Lib.hid hz0
 have HZ1:=Lib.hid hz1
 have HZ2:=Lib.hid hz2
 obtain ⟨i1,ki,kz0,kz1,kz2⟩:=qaG infoBool
 have KI:=Lib.hid ki
 have KZ0:=Lib.hid kz0
 have KZ1:=Lib.hid kz1
 clear hi hz0 hz1 hz2
 have HC:Hid (∀ y W,y<p ^ m->w.heap.size<=W.heap.size->Below w.heap.size w W->Calls Tryz.prog 155 #[.agg #[.int .i64 p,.int .i64 m,.slice A n c],.int .i64 ((y:Nat):Int),.int .i64 x] W fun e w'=>e=.returned (.int .i64 ((mulM p m md y x:Nat):Int))/\Below W.heap.size W w') :=
  fun y W hy hsz hb=>multiply_c p m y x A n c md W HSM.out ((HM.out.keep hb).more hsz) HMD.out hy HXP.out
 generalize hmu:mulM p m md=mul at *
 clear hmu
 generalize hqq:p ^ m=q at *
 clear hqq
 have KB2:=Lib.hid (show i1.bytes*q<=281474976710656 by rw [kz2];omega)
 have KB3:=Lib.hid (show q<=maxLen by unfold maxLen;omega)
 clear ki kz0 kz1 kz2 HM HMD
 go_enter Tryz.func154,Tryz.ntmps154
 go_wp2_with (refine wpList_make_full _ rfl (.tmp 11) (.tmp 11) 133 rfl (w.heap.size+1) 4 i1 (.bool false) 1 Tryz.underlying133 KI.out KZ0.out KZ1.out .i64 .i64 q q q rfl rfl rfl rfl KB2.out KB3.out ?c1 ?_)
 case c1=>simp
 intro w1 hown hgr
 have hbr:=BRow.of_made hown
 have HW0:Hid ((w.alloc (.cells #[.int .i64 p,.int .i64 m,.slice A n c] 29)).heap.size=w.heap.size+1):=by show _=_;simp
 have HBLK:Hid ((w.alloc (.cells #[.int .i64 p,.int .i64 m,.slice A n c] 29)).heap[w.heap.size]?=some (.cells [.int .i64 p,.int .i64 m,.slice A n c].toArray 29 (0,0))):=heap_alloc_new _ _
 have HB0:Hid (Below w.heap.size w (w.alloc (.cells #[.int .i64 p,.int .i64 m,.slice A n c] 29))):=(Below.refl _ _).alloc (Nat.le_refl _) _
 generalize w.alloc (.cells #[.int .i64 p,.int .i64 m,.slice A n c] 29)=W0 at *
 have hro:Row (W0.alloc (.cells #[.int .i64 1] 3)) (w.heap.size+1) (w.heap.size+1) 1 [1]:=by
  have:=row_lit W0 1 (B:=w.heap.size+1) (Nat.le_of_eq HW0.out.symm)
  rw [HW0.out] at this
  exact this
 have HB1:Hid (Below (w.heap.size+1) W0 w1):=((Below.refl _ _).alloc (Nat.le_of_eq HW0.out.symm) _).grown hgr (by simp [HW0.out]) (fun _ h=>by cases h)
 have HRO:=Lib.hid (hro.grown hgr (by simp))
 have HBR:=Lib.hid hbr
 have s0:=hbr.frozen 1
 have s1:=hbr.cell (j:=1) (by rw [List.length_replicate];omega)
 clear hown hgr hro hbr
 have hq3:(1:Int)<(q:Int):=by omega
 go_wp2_with fail
 have HRO2:=Lib.hid (HRO.out.far (p:=⟨w.heap.size+1+1,1,none⟩) (by show w.heap.size+1≠w.heap.size+1+1;omega) (.bool true))
 have HBR2:=Lib.hid (HBR.out.set 1 true)
 have HB2:=Lib.hid (HB1.out.setCell (p:=⟨w.heap.size+1+1,1,none⟩) (by show w.heap.size+1<=w.heap.size+1+1;omega) (.bool true))
 clear s0 s1 HRO HBR HB1
 generalize w1.setCell ⟨w.heap.size+1+1,1,none⟩ (.bool true)=w2 at *
 clear w1
 have HGS:Hid (w.heap.size+1<=w.heap.size+1+1):=Nat.le_succ _
 generalize w.heap.size+1+1=gs at *
 have HP1:Hid (pw mul x 1=x):=HMON.out.one x HXP.out
 go_loopg [7,9] (q-1) (fun g v7 v9 wr=>RelP w W0 q x gs mul g v7 v9 wr)
 case atStart =>
  refine ⟨1,(List.replicate q false).set 1 true,Nat.le_refl _,by omega,good_one x,?_,by rw [HP1.out],⟨w.heap.size+1,1,rfl,HRO2.out⟩,?_,⟨by simp,?_⟩,HB2.out⟩
  . rw [HP1.out]
    rfl
  . exact HBR2.out
  . intro a ha
    have e:pl mul x 1=[1]:=rfl
    rw [e]
    by_cases h1:a=1
    . subst h1
      simp [List.getD,ha]
    . simp only [List.getD]
      rw [List.getElem?_set_ne (by omega)]
      simp [ha,h1]
 case round =>
  obtain ⟨k,bs,hk1,hkg,hgood,hpo,rfl,⟨g,c',rfl,hrow⟩,hbr,hseen,hbel⟩:=hrel
  have HROW:=Lib.hid hrow
  have HBR:=Lib.hid hbr
  have HSEEN:=Lib.hid hseen
  have HBEL:=Lib.hid hbel
  have HGOOD:=Lib.hid hgood
  have HPO:=Lib.hid hpo
  have hyq:pw mul x k<q:=pw_lt HMON.out x k
  clear hrow hbr hseen hbel hgood hpo HRO2 HBR2 HB2
  have HEND:Hid (pw mul x k=0\/pw mul x k∈pl mul x k->powers mul q x=pl mul x k):=fun h=>by
   rw [<- HPO.out,show q+1-k=(q-k)+1 by omega]
   simp only [pows,if_pos h]
  have HFIN:Hid (Below w.heap.size w wr):=HB0.out.trans (HBEL.out.mono (Nat.le_succ _))
  have HLEN:Hid ((nz (pl mul x k)).length=k):=by show _=_;rw [qaB,pl_len]
  have HRW:=Lib.hid (HROW.out.base (B':=w.heap.size) (by have:=HROW.out.lt;omega))
  have HSD:Hid (pw mul x k<q->(bs.getD (pw mul x k) false=true ↔ pw mul x k∈pl mul x k)):=HSEEN.out.2 _
  have HBC:Hid (wr.cell? ⟨gs,pw mul x k,none⟩=some (.bool (bs.getD (pw mul x k) false))):=HBR.out.cell (by rw [HSEEN.out.1];exact hyq)
  have HBF:Hid (wr.frozen? ⟨gs,pw mul x k,none⟩=false):=HBR.out.frozen _
  have HSUC:Hid (pw mul x (k+1)=mul (pw mul x k) x):=rfl
  have HPL:Hid (pl mul x (k+1)=pl mul x k++[pw mul x k]):=pl_succ x k
  have HNXT:Hid (pw mul x k≠0->pw mul x k∉pl mul x k->Pln.Good mul x (k+1)/\pows mul x (q+1-(k+1)) (pw mul x (k+1)) (pl mul x (k+1))=powers mul q x):=fun h1 h2=>by
   refine ⟨good_succ HGOOD.out h1 h2,?_⟩
   rw [<- HPO.out,show q+1-k=(q+1-(k+1))+1 by omega]
   have hn:¬ (pw mul x k=0\/pw mul x k∈pl mul x k):=by
    rintro (h | h)
    . exact h1 h
    . exact h2 h
   simp only [pows,if_neg hn,HPL.out,HSUC.out]
  rw [HLEN.out]
  clear HPO HGOOD
  by_cases hz:pw mul x k=0
  . have HE := Lib.hid (HEND.out (.inl hz))
    clear HEND HSD HBC HBF HSUC HPL HNXT
    rw [hz]
    clear hz hyq
    go_wp2_with fail
    go_ret
    exact ⟨⟨.slice (some ⟨g,0,none⟩) k c',rfl,g,c',by rw [HE.out,HLEN.out],by rw [HE.out];exact HRW.out⟩,HFIN.out⟩
  . by_cases hm : pw mul x k ∈ pl mul x k
    . have HE := Lib.hid (HEND.out (.inr hm))
      have hb:=HBC.out
      rw [(HSD.out hyq).2 hm] at hb
      clear HEND HSD HBC HBF HSUC HPL HNXT hm
      generalize pw mul x k=y at *
      have hyb:((y:Int) != 0)=true:=by simpa using hz
      have hyb2:¬ (y:Int)=0:=by omega
      have hy0:(0:Int)<=(y:Int):=by omega
      have hy1:(y:Int)<(q:Int):=by omega
      go_wp2_with fail
      go_ret
      exact ⟨⟨.slice (some ⟨g,0,none⟩) k c',rfl,g,c',by rw [HE.out,HLEN.out],by rw [HE.out];exact HRW.out⟩,HFIN.out⟩
    . have hb := HBC.out
      have hbf:bs.getD (pw mul x k) false=false:=by
       cases h:bs.getD (pw mul x k) false
       . rfl
       . exact absurd ((HSD.out hyq).1 h) hm
      rw [hbf] at hb
      have hf:=HBF.out
      obtain ⟨hgo,hpo⟩:=HNXT.out hz hm
      have HGO:=Lib.hid hgo
      have HPO:=Lib.hid hpo
      have hkq:=good_len HMON.out hgo
      have HSEEN2:=Lib.hid (HSEEN.out.set hyq)
      have HCY:Hid (∀ W,w.heap.size<=W.heap.size->Below w.heap.size w W->Calls Tryz.prog 155 #[.agg #[.int .i64 p,.int .i64 m,.slice A n c],.int .i64 ((pw mul x k:Nat):Int),.int .i64 x] W fun e w'=>e=.returned (.int .i64 ((mul (pw mul x k) x:Nat):Int))/\Below W.heap.size W w'):=fun W h1 h2=>HC.out _ W hyq h1 h2
      clear HEND HSD HBC HBF HNXT hm hbf hgo hpo HSEEN HFIN HRW
      have HYG:Hid (pw mul x k=pw mul x k):=rfl
      generalize hye:pw mul x k=y at *
      have HYE:=Lib.hid hye
      clear HYG hye
      have hyb:((y:Int) != 0)=true:=by simpa using hz
      have hyb2:¬ (y:Int)=0:=by omega
      have hy0:(0:Int)<=(y:Int):=by omega
      have hy1:(y:Int)<(q:Int):=by omega
      have hne:=row_brow_ne HROW.out HBR.out
      have HR2:=Lib.hid (HROW.out.far (p:=⟨gs,y,none⟩) hne (.bool true))
      have HBR2:=Lib.hid (HBR.out.set y true)
      have HBEL2:=Lib.hid (HBEL.out.setCell (p:=⟨gs,y,none⟩) HGS.out (.bool true))
      have hg1:=HROW.out.lt
      have hgw:g<wr.heap.size:=hg1.2
      go_upto_region 8 with fail
      clear hb hf HROW HBR HBEL
      generalize wr.setCell ⟨gs,y,none⟩ (.bool true)=ws at *
      have hws:w.heap.size+1<=ws.heap.size:=by have:=HBEL2.out.size;have:=HW0.out;omega
      have hkl:k<=256:=by omega
      go_wp2_with (at_builtin;refine wpList_append_own_at _ rfl (.tmp 32) (.tmp 34) 23 rfl (w.heap.size+1) 3 i0 _ 1 8 Tryz.underlying23 HI.out HZ0.out HZ1.out HZ2.out rfl (by decide) (.slice (some ⟨g,0,none⟩) k c') k ((nz (pl mul x k)).map (Value.int .i64)) rfl (own_of_row HR2.out HLEN.out) ⟨ws.heap.size,0,none⟩ 1 1 [.int .i64 (y:Int)] rfl rfl ?c1 ?c2 ?c3 ?c4 ?c5 ?_)
      case c1=>exact World.news_of_block (cs:=#[.int .i64 (y:Int)]) (t:=3) (fr:=(0,0)) (heap_alloc_new ws _)
      case c2=>intro u hu;simp at hu;subst hu;rfl
      case c3=>unfold maxLen;omega
      case c4=>omega
      case c5=>simp;omega
      intro v' w3 hown' hgw3 _ hat
      have HO3:Hid (OwnI w3 (w.heap.size+1) v' (nz (pl mul x (k+1)))):=by
       rw [HPL.out]
       exact own_of_append hown' HLEN.out
      have HBR3:Hid (BRow w3 (w.heap.size+1) gs q (bs.set y true)):=(HBR2.out.alloc _).grown hgw3 (by simp [Value.ownBlock];omega)
      have HBEL3:Hid (Below (w.heap.size+1) W0 w3):=(HBEL2.out.alloc hws _).grown hgw3 (by simp;omega) (fun j hj=>by simp [Value.ownBlock] at hj;omega)
      have HRG:Hid (w3.rangeAt w.heap.size 0 [.int .i64 p,.int .i64 m,.slice A n c]):=qaC ((HBEL3.out.block _ (Nat.lt_succ_self _)).trans HBLK.out)
      have hw3:w.heap.size<=w3.heap.size:=by have:=HBEL3.out.size;have:=HW0.out;omega
      clear hown' hgw3 hat HR2 HBR2 HBEL2
      go_wp2_with (refine wpList_load_mid rfl 29 (.tmp 3) rfl w.heap.size 0 rfl [.int .i64 p,.int .i64 m,.slice A n c] _ HRG.out Tryz.underlying29 rfl fieldSize ?_)
      (with_reducible refine (HCY.out w3 hw3 (HB0.out.trans (HBEL3.out.mono (Nat.le_succ _)))).mono ?_)
      rintro e w4 ⟨rfl,hb4⟩
      have HO4:=Lib.hid (HO3.out.below hb4)
      have HBR4:=Lib.hid (HBR3.out.below hb4 HBR3.out.lt.2)
      have HBEL4:=Lib.hid (HBEL3.out.trans (hb4.mono (by have:=HBEL3.out.size;have:=HW0.out;omega)))
      clear hb4 HO3 HBR3 HBEL3 HRG
      go_wp2_with fail
      go_roundg (q-(k+1))
      case measure=>omega
      case rel=>exact ⟨k+1,_,by omega,by omega,HGO.out,HPO.out,by rw [HSUC.out],HO4.out,HBR4.out,by rw [HPL.out];exact HSEEN2.out,HBEL4.out⟩
end Go.Proofs.YtlmglaonldlanaaGreat
