/-
 The program's field: the product of residues.
-/
import Derived.StillTailTactics
import Derived.IntWalk
import Derived.Laws.CopyOwn
import Derived.Deep.RegionHeld3
import Derived.Deep.DeepCutAuto
import Derived.Deep.RegionLaw
import Derived.Test.YtlmglaonldlanaaGreatQ03
namespace Go.Proofs.YtlmglaonldlanaaGreat
open Go.RowKit Pln
def ModAt (w:World) (B m:Nat) (A:Option Addr) (n:Nat) (md:List Nat):Prop:=(m=1/\md=[0])\/(1<m/\n=m/\md.length=m/\IntsAt w B A (nz md))
theorem ModAt.keep {w w':World} {B m:Nat} {A:Option Addr} {n:Nat} {md:List Nat} (h:ModAt w B m A n md) (hb:Below B w w'):ModAt w' B m A n md:=by
 rcases h with h | ⟨h1,h2,h3,h4⟩
 . exact .inl h
 . exact .inr ⟨h1,h2,h3,h4.keep hb⟩
theorem ModAt.more {w:World} {B B' m:Nat} {A:Option Addr} {n:Nat} {md:List Nat} (h:ModAt w B m A n md) (hB:B<=B'):ModAt w B' m A n md:=by
 rcases h with h | ⟨h1,h2,h3,h4⟩
 . exact .inl h
 . exact .inr ⟨h1,h2,h3,h4.more hB⟩
structure Small (p m:Nat):Prop where
 p1:2<=p
 p2:p<=256
 m1:1<=m
 m2:m<=8
 q:p ^ m<=256
def CutAB (w W0:World) (p m x y:Nat) (v7 v8:Value) (wx:World):Prop :=
 ∃ ga gb,v7=.slice (some ⟨ga,0,none⟩) m m/\v8=.slice (some ⟨gb,0,none⟩) m m/\Row wx (w.heap.size+1) ga m (nz (digs p m x))/\Row wx (w.heap.size+1) gb m (nz (digs p m y))/\Below (w.heap.size+1) W0 wx
def MInv (w W0:World) (m ga gb go:Nat) (a b out:List Nat) (wr:World):Prop :=
 Row wr (w.heap.size+1) ga m (nz a)/\Row wr (w.heap.size+1) gb m (nz b)/\Row wr (w.heap.size+1) go m (nz out)/\ga<go/\gb<go/\Below (w.heap.size+1) W0 wr
def RelM (w W0:World) (p m:Nat) (md:List Nat) (ga gb go:Nat) (a b:List Nat) (v10:Value) (wr:World):Prop :=
 ∃ k:Nat,k<=m/\v10=.int .i64 ((k:Int)-1)/\MInv w W0 m ga gb go a b (mulL p m md a (b.drop k)) wr
theorem MInv.set {w W0:World} {m ga gb go:Nat} {a b out:List Nat} {wr:World} (h:MInv w W0 m ga gb go a b out wr) (j x:Nat):MInv w W0 m ga gb go a b (out.set j x) (wr.setCell ⟨go,j,none⟩ (.int .i64 x)):=by
 obtain ⟨h1,h2,h3,h4,h5,h6⟩:=h
 refine ⟨h1.far (p:=⟨go,j,none⟩) (Nat.ne_of_lt h4) _,h2.far (p:=⟨go,j,none⟩) (Nat.ne_of_lt h5) _,?_,h4,h5,h6.setCell h3.lt.1 _⟩
 rw [<- qbX]
 exact h3.set j x
def CopyInv (w W0:World) (m ga gb go:Nat) (a b out:List Nat) (wr:World):Prop:=MInv w W0 m ga gb go a b ((out.getD 0 0) :: out.take (m-1)) wr
theorem mulL_drop (p m:Nat) (md a b:List Nat) (k:Nat) (hk:k<b.length):mulL p m md a (b.drop k)=stepM p m md a (b.getD k 0) (mulL p m md a (b.drop (k+1))):=by
 rw [List.drop_eq_getElem_cons hk]
 have:b.getD k 0=b[k]:=by simp [List.getD,hk]
 rw [this]
 rfl
theorem sizeInt:(Tryz.prog.info? 3).map (·.size)=some 1:=by kernel_rfl
theorem copy_src {w:World} {B g c:Nat} {zs:List Int} (h:Row w B g c zs) {n j:Nat} {v:Value} (hv:((zs.take n).map (Value.int .i64))[j]?=some v):w.cell? ((⟨g,0,none⟩:Addr).add j)=some v:=by
 have hj:j<zs.length:=by
  have:=(List.getElem?_eq_some_iff.1 hv).1
  simp at this
  omega
 have e:(⟨g,0,none⟩:Addr).add j=⟨g,j,none⟩:=by rw [Addr.add_mid];simp
 rw [e,h.cell hj]
 rw [List.getElem?_map,List.getElem?_take] at hv
 by_cases hn:j<n
 . rw [if_pos hn,List.getElem?_eq_getElem hj] at hv
   simp only [Option.map_some] at hv
   rw [<- hv]
   simp [List.getD,hj]
 . rw [if_neg hn] at hv
   cases hv
theorem copy_inv {w W0:World} {p m ga gb go:Nat} {a b out:List Nat} {wr w4:World} {cur cs:List Value} (h:MInv w W0 m ga gb go a b out wr) (hod:Dig p m out) (hm:1<=m) (hcl:m<=cur.length)
 (hct:cur.take (nz out).length=(nz out).map (Value.int .i64))
 (hre:∀ (w':World) (cur':List Value) (zs':List Int),w'.heap[go]?=some (.cells cur'.toArray 3 (0,0))->cur'.length=cur.length->zs'.length=(nz out).length->cur'.take (nz out).length=zs'.map (Value.int .i64)->Row w' (w.heap.size+1) go m zs')
 (hcs:((nz out).take (m-1)).map (Value.int .i64)=cs) (hg:w4.heap[go]?=some (.cells (splice cur 1 cs).toArray 3 (0,0))) (hb:Below go wr w4):CopyInv w W0 m ga gb go a b out w4:=by
 obtain ⟨h1,h2,h3,h4,h5,h6⟩:=h
 have hlt:=h3.lt
 have hcsl:cs.length=m-1:=by rw [<- hcs,List.length_map,List.length_take,qaB,hod.1];omega
 refine ⟨h1.below hb h4,h2.below hb h5,?_,h4,h5,h6.trans (hb.mono hlt.1)⟩
 refine hre w4 _ _ hg (length_splice _ _ _ (by omega)) ?_ ?_
 . rw [qaB,qaB,hod.1]
   simp [hod.1]
   omega
 . rw [qaB,hod.1] at hct ⊢
   unfold splice
   obtain ⟨n,rfl⟩:∃ n,m=n+1:=⟨m-1,by omega⟩
   have hol:=hod.1
   match out,hol with
   | o :: os,hol =>
     match cur,hcl with
     | u :: us,_ =>
       simp only [List.take_succ_cons,nz,List.map_cons,List.cons.injEq] at hct
       simp only [List.take_succ_cons,List.take_zero,List.cons_append,List.nil_append,List.getD_cons_zero,Nat.add_sub_cancel]
       rw [List.take_append_of_le_length (by omega),List.take_of_length_le (by omega),<- hcs,hct.1,nz_take]
       simp [nz]
def innK (p m:Nat) (md a:List Nat) (bi:Nat) (out:List Nat) (j:Nat):List Nat:=(stepM p m md a bi out).take j++(0 :: out.take (m-1)).drop j
def RelI (w W0:World) (p m:Nat) (md:List Nat) (ga gb go:Nat) (a b:List Nat) (bi:Nat) (out:List Nat) (v54:Value) (wr:World):Prop :=
 ∃ j:Nat,j<=m/\v54=.int .i64 j/\MInv w W0 m ga gb go a b (innK p m md a bi out j) wr
theorem qdL (p m:Nat) (md a:List Nat) (bi:Nat) (out:List Nat):(stepM p m md a bi out).length=m:=by simp [stepM]
theorem stepM_at (p m:Nat) (md a:List Nat) (bi:Nat) (out:List Nat) (j:Nat) (hj:j<m):(stepM p m md a bi out).getD j 0=((if j=0 then 0 else out.getD (j-1) 0)+(p-out.getD (m-1) 0)*md.getD j 0+bi*a.getD j 0) % p:=by
 simp [stepM,List.getD,hj]
theorem shl_len {m:Nat} {out:List Nat} (h:out.length=m) (hm:1<=m):(0 :: out.take (m-1)).length=m:=by simp [h];omega
theorem innK_len {p m:Nat} {md a:List Nat} {bi:Nat} {out:List Nat} {j:Nat} (hj:j<=m) (hm:1<=m) (h:out.length=m):(innK p m md a bi out j).length=m:=by
 unfold innK
 rw [List.length_append,List.length_take,List.length_drop,qdL,shl_len h hm]
 omega
theorem innK_at (p m:Nat) (md a:List Nat) (bi:Nat) (out:List Nat) (j:Nat) (hj:j<m) (h:out.length=m):(innK p m md a bi out j).getD j 0=if j=0 then 0 else out.getD (j-1) 0:=by
 unfold innK
 have hl:((stepM p m md a bi out).take j).length=j:=by rw [List.length_take,qdL];omega
 simp only [List.getD]
 rw [List.getElem?_append_right (by omega),hl,Nat.sub_self,List.getElem?_drop,Nat.add_zero]
 rcases j with _ | j
 . simp
 . simp only [List.getElem?_cons_succ,Nat.add_sub_cancel,if_neg (Nat.succ_ne_zero j)]
   rw [List.getElem?_take,if_pos (by omega)]
theorem innK_set (p m:Nat) (md a:List Nat) (bi:Nat) (out:List Nat) (j:Nat) (hj:j<m) (h:out.length=m):(innK p m md a bi out j).set j ((stepM p m md a bi out).getD j 0)=innK p m md a bi out (j+1):=by
 unfold innK
 have hl:((stepM p m md a bi out).take j).length=j:=by rw [List.length_take,qdL];omega
 have hl2:=shl_len h (by omega)
 rw [List.set_append_right _ _ (by omega),hl,Nat.sub_self]
 rw [List.drop_eq_getElem_cons (i:=j) (by omega),List.set_cons_zero]
 rw [List.take_succ_eq_append_getElem (by rw [qdL];exact hj),List.append_assoc]
 have:(stepM p m md a bi out).getD j 0=(stepM p m md a bi out)[j]'(by rw [qdL];exact hj):=by
  rw [List.getD_eq_getElem?_getD,List.getElem?_eq_getElem (by rw [qdL];exact hj)]
  rfl
 rw [this]
 rfl
theorem innK_end (p m:Nat) (md a:List Nat) (bi:Nat) (out:List Nat) (h:out.length=m) (hm:1<=m):innK p m md a bi out m=stepM p m md a bi out:=by
 unfold innK
 rw [List.take_of_length_le (by rw [qdL];exact Nat.le_refl _),List.drop_of_length_le (Nat.le_of_eq (shl_len h hm)),List.append_nil]
theorem qbF (a b:Nat):Int.tmod (a:Int) (b:Int)=((a % b:Nat):Int):=by
 rw [Int.tmod_eq_emod_of_nonneg (by omega)]
 rfl
theorem mul_le_256 {a b:Nat} (ha:a<=256) (hb:b<=256):0<=(a:Int)*(b:Int)/\(a:Int)*(b:Int)<=65536:=by
 have:a*b<=256*256:=Nat.mul_le_mul ha hb
 have h2:((a*b:Nat):Int)=(a:Int)*(b:Int):=Int.natCast_mul _ _
 omega
theorem MInv.drew {w W0:World} {m ga gb go:Nat} {a b out:List Nat} {wr:World} (h:MInv w W0 m ga gb go a b out wr):MInv w W0 m ga gb go a b out wr.drew:=by
 obtain ⟨h1,h2,h3,h4,h5,h6⟩:=h
 exact ⟨h1,h2,h3,h4,h5,h6.drew⟩
set_option maxHeartbeats 1000000 in
set_option maxRecDepth 100000 in
theorem multiply_n (p m x y:Nat) (A:Option Addr) (c:Nat) (md:List Nat) (w:World) (hs:Small p m) (hm1':1<m) (hM:IntsAt w w.heap.size A (nz md)) (hml:md.length=m) (hmd:∀ d∈md,d<p) (hx:x<p ^ m) (hy:y<p ^ m) :
 Calls Tryz.prog 155 #[.agg #[.int .i64 p,.int .i64 m,.slice A m c],.int .i64 x,.int .i64 y] w fun e w'=>e=.returned (.int .i64 ((mulM p m md x y:Nat):Int))/\Below w.heap.size w w':=by
 obtain ⟨hp1,hp2,hm1,hm2,hq⟩:=hs
 obtain ⟨i0,hi,hz0,hz1,hz2⟩:=qaG infoInt
 have HI:=Lib.hid hi
 have HZ0:=Lib.hid hz0
 have HZ1:=Lib.hid hz1
 have HB2:=Lib.hid (show i0.bytes*m<=281474976710656 by rw [hz2];omega)
 have HB3:=Lib.hid (show m<=maxLen by unfold maxLen;omega)
 clear hi hz0 hz1 hz2
 have HM:=Lib.hid hM
 have HML:=Lib.hid hml
 have HMD:=Lib.hid hmd
 clear hM hml hmd
 have hx2:x<=256:=by omega
 have hy2:y<=256:=by omega
 clear hx hy
 go_enter Tryz.func155,Tryz.ntmps155
 go_upto_region 1 with fail
 have hb0:Below w.heap.size w (w.alloc (.cells #[.int .i64 p,.int .i64 m,.slice A m c] 29)):=(Below.refl _ _).alloc (Nat.le_refl _) _
 have hblk:(w.alloc (.cells #[.int .i64 p,.int .i64 m,.slice A m c] 29)).heap[w.heap.size]?=some (.cells #[.int .i64 p,.int .i64 m,.slice A m c] 29 (0,0)):=heap_alloc_new _ _
 have hsz:(w.alloc (.cells #[.int .i64 p,.int .i64 m,.slice A m c] 29)).heap.size=w.heap.size+1:=by simp
 have HB0:=Lib.hid hb0
 have HBLK:=Lib.hid hblk
 have HSZ:=Lib.hid hsz
 clear hb0 hblk hsz
 generalize w.alloc (.cells #[.int .i64 p,.int .i64 m,.slice A m c] 29)=W0 at *
 have z0:W0.cell? ⟨w.heap.size,0,none⟩=some (.int .i64 p):=cell_of_row _ _ 0 _ _ _ HBLK.out
 have z1:W0.cell? ⟨w.heap.size,1,none⟩=some (.int .i64 m):=cell_of_row _ _ 1 _ _ _ HBLK.out
 go_cut [7,8] (fun v7 v8 wx=>CutAB w W0 p m x y v7 v8 wx)
 case first =>
  have hlt0:w.heap.size<W0.heap.size:=by have:=HSZ.out;omega
  go_region_held3 (fun w'=>w'.cell? ⟨w.heap.size,0,none⟩=some (.int .i64 p)/\w'.cell? ⟨w.heap.size,1,none⟩=some (.int .i64 m)/\w.heap.size<w'.heap.size)
   (first | go_keep | (go_split_ands;first | exact ⟨(hbd2.cell (p:=⟨w.heap.size,0,none⟩) (by assumption)).trans (by assumption),(hbd2.cell (p:=⟨w.heap.size,1,none⟩) (by assumption)).trans (by assumption),Nat.lt_of_lt_of_le (by assumption) hbd2.size⟩ | exact ⟨(hbd1.cell (p:=⟨w.heap.size,0,none⟩) (by assumption)).trans (by assumption),(hbd1.cell (p:=⟨w.heap.size,1,none⟩) (by assumption)).trans (by assumption),Nat.lt_of_lt_of_le (by assumption) hbd1.size⟩))
   (first | ((with_reducible refine (qdX x p m _ (by omega) (by omega) (by omega) (by omega)).mono ?_);rintro e wd1 ⟨rfl,hrowa,hbd1⟩) | ((with_reducible refine (qdX y p m _ (by omega) (by omega) (by omega) (by omega)).mono ?_);rintro e wd2 ⟨rfl,hrowb,hbd2⟩))
  have hX:CutAB w W0 p m x y (.slice (some ⟨W0.heap.size,0,none⟩) m m) (.slice (some ⟨wd1.heap.size,0,none⟩) m m) wd2:=by
   have e:=HSZ.out
   have e1:Below W0.heap.size W0 wd1:=⟨hbd1.os,hbd1.tape,hbd1.output,hbd1.size,hbd1.block⟩
   have r1:Row wd1 W0.heap.size W0.heap.size m (nz (digs p m x)):=hrowa
   have hs1:=hbd1.size
   have l1:=r1.lt
   refine ⟨_,_,rfl,rfl,(r1.below hbd2 l1.2).base (by omega),hrowb.base (by have:W0.heap.size<=wd1.heap.size:=e1.size;omega),?_⟩
   rw [<- e]
   exact e1.trans (hbd2.mono e1.size)
  have HX:=Lib.hid hX
  clear hrowa hrowb hbd1 hbd2 hX
  go_wp2_with fail
  go_meet
  exact HX.out
 case rest =>
  obtain ⟨ga,gb,rfl,rfl,hra,hrb,hbc⟩:=hcut
  have HRA:=Lib.hid hra
  have HRB:=Lib.hid hrb
  have HBC:=Lib.hid hbc
  have hsc:w.heap.size+1<=wc.heap.size:=by have:=hbc.size;have:=HSZ.out;omega
  have y1:wc.cell? ⟨w.heap.size,1,none⟩=some (.int .i64 m):=(hbc.cell (p:=⟨w.heap.size,1,none⟩) (by show w.heap.size < _;omega)).trans z1
  clear hra hrb hbc z0 z1
  go_wp2_with (refine wpList_make_full wc rfl (.tmp 27) (.tmp 27) 23 rfl (w.heap.size+1) 3 i0 (.int .i64 0) 1 Tryz.underlying23 HI.out HZ0.out HZ1.out .i64 .i64 m m m rfl rfl rfl rfl HB2.out HB3.out hsc ?_;intro w1 hown hgr;have x1:w1.cell? ⟨w.heap.size,1,none⟩=some (.int .i64 m):=(hgr.cell y1 (by simp)))
  have hrl:=HRA.out.lt.2
  have hrl2:=HRB.out.lt.2
  have HI1:Hid (MInv w W0 m ga gb wc.heap.size (digs p m x) (digs p m y) (List.replicate m 0) w1) :=
   ⟨HRA.out.grown hgr (by simp),HRB.out.grown hgr (by simp),Row.of_make hown,by omega,by omega,HBC.out.grown hgr hsc (fun _ h=>by cases h)⟩
  clear hown hgr hrl hrl2 y1 HRA HRB HBC
  generalize wc.heap.size=go at *
  clear hsc
  clear wc
  go_loopw [10] (fun v10 wr=>RelM w W0 p m md ga gb go (digs p m x) (digs p m y) v10 wr) (fun v10 _=>(intOf v10+1).toNat)
  case atStart=>exact ⟨m,Nat.le_refl _,by simp,by rw [List.drop_of_length_le (by rw [qaK];exact Nat.le_refl _)];exact HI1.out⟩
  case round =>
   obtain ⟨k,hk,rfl,hinv⟩:=hrel
   have HV:=Lib.hid hinv
   have HB9:=Lib.hid hinv.2.2.2.2.2
   have d0:wr.cell? ⟨w.heap.size,0,none⟩=some (.int .i64 p):=(HB9.out.cell (p:=⟨w.heap.size,0,none⟩) (by show w.heap.size < _;omega)).trans (cell_of_row _ _ 0 _ _ _ HBLK.out)
   have d1:wr.cell? ⟨w.heap.size,1,none⟩=some (.int .i64 m):=(HB9.out.cell (p:=⟨w.heap.size,1,none⟩) (by show w.heap.size < _;omega)).trans (cell_of_row _ _ 1 _ _ _ HBLK.out)
   clear hinv HI1 x1
   rcases k with _ | k
   . have HV0 : Hid (Row wr (w.heap.size + 1) go m (nz (mulL p m md (digs p m x) (digs p m y)))) := HV.out.2.2.1
     have HD:=Lib.hid (qaY (m:=m) (by omega:0<p) md (digs p m x) (digs p m y))
     have hgo:=HV0.out.lt.2
     have HF:Hid (Below w.heap.size w wr):=HB0.out.trans (HB9.out.mono (Nat.le_succ _))
     have HE:Hid (mulM p m md x y=val p (mulL p m md (digs p m x) (digs p m y))):=rfl
     clear HV HB9
     generalize mulL p m md (digs p m x) (digs p m y)=L at *
     go_wp2_with fail
     (with_reducible refine (valueOf_n (some ⟨go,0,none⟩) L m m p wr (HV0.out.ints hgo) (by omega) HD.out (by omega) (by omega) (by omega)).mono ?_)
     rintro e w' ⟨rfl,rfl⟩
     go_wp2_with fail
     go_ret
     exact ⟨qaD (by rw [HE.out]),HF.out⟩
   . have hk1 : ((k + 1 : Nat) : Int) - 1 = (k : Int) := by omega
     rw [hk1]
     clear hk1
     have hkm:k<m:=by omega
     obtain ⟨hra,hrb,hro,hne1,hne2,hlast⟩:=HV.out
     have HST:Hid (mulL p m md (digs p m x) ((digs p m y).drop k)=stepM p m md (digs p m x) ((digs p m y).getD k 0) (mulL p m md (digs p m x) ((digs p m y).drop (k+1)))):=mulL_drop p m md _ _ k (by rw [qaK];exact hkm)
     have HOD:=Lib.hid (qaY (m:=m) (by omega:0<p) md (digs p m x) ((digs p m y).drop (k+1)))
     have HXD:=Lib.hid (qcV (by omega:0<p) m x)
     have HYD:=Lib.hid (qcV (by omega:0<p) m y)
     have HK:Hid (MInv w W0 m ga gb go (digs p m x) (digs p m y) (mulL p m md (digs p m x) ((digs p m y).drop (k+1))) wr):=HV.out
     clear HV
     generalize mulL p m md (digs p m x) ((digs p m y).drop (k+1))=out at *
     have HNX:Hid (digs p m x=digs p m x):=rfl
     generalize hax:digs p m x=ax at *
     generalize hby:digs p m y=by_ at *
     clear hax hby HNX
     obtain ⟨top,htope⟩:∃ t,out.getD (m-1) 0=t:=⟨_,rfl⟩
     have HTOP:=Lib.hid htope
     have t0:wr.cell? ⟨go,m-1,none⟩=some (.int .i64 (top:Int)):=by rw [<- htope,<- qaF];exact hro.cell (by rw [qaB,HOD.out.1];omega)
     clear hra hrb hro hlast hne1 hne2 htope
     go_upto_region 7 with fail
     go_cut [49] (fun v wx=>CopyInv w W0 m ga gb go ax by_ out wx)
     case first =>
      obtain ⟨cur,hcur,hcl,hct,hre⟩:=HK.out.2.2.1.cur
      have HCUR:=Lib.hid hcur
      have HCL:=Lib.hid hcl
      have HCT:=Lib.hid hct
      have HRE:=Lib.hid hre
      have hcl2:m<=cur.length:=by rw [qaB,HOD.out.1] at hcl;exact hcl
      have HCS:Hid ((((nz out).take (m-1)).map (Value.int .i64)).length=m-1):=by show _=_;rw [List.length_map,List.length_take,qaB,HOD.out.1];omega
      have HC4:Hid (∀ v∈((nz out).take (m-1)).map (Value.int .i64),v.oneCell'=true):=fun v hv=>by obtain ⟨z,_,rfl⟩:=List.mem_map.1 hv;rfl
      have HCC:Hid (∀ (j:Nat) (v:Value),(((nz out).take (m-1)).map (Value.int .i64))[j]?=some v->wr.cell? ((⟨go,0,none⟩:Addr).add j)=some v):=fun j v hv=>copy_src HK.out.2.2.1 hv
      clear hcur hcl hct hre t0
      have j1:(1:Int)<=(m:Int):=by omega
      have j2:¬ m=1:=by omega
      have j3:(m:Int)-1<=(m:Int):=by omega
      have j5:((m:Int)-1).toNat=m-1:=by omega
      have j7:(0:Int)<=(m:Int)-1:=by omega
      generalize hcse:((nz out).take (m-1)).map (Value.int .i64)=cs at *
      have HCE:=Lib.hid hcse
      clear hcse
      have HFIT:Hid (1+cs.length<=cur.length):=by show _<=_;rw [HCS.out];omega
      have j6:IntKind.i64.wrap ((m:Int)-1)=(m:Int)-1:=IntWalk.i64_in _ (by omega)
      go_region_law (refine step_copy_splice rfl (.tmp 43) (.tmp 48) 23 23 rfl 3 Tryz.underlying23 sizeInt _ _ _ _ _ _ rfl rfl go 1 cur 3 HCUR.out cs (by rw [HCS.out];simp) (fun hp0=>⟨rfl,⟨go,0,none⟩,rfl,HCC.out⟩) HFIT.out HC4.out go wr (Below.refl _ _).drew (Nat.le_refl _) ?_;intro w4 hg4 hb4)
      clear j6
      have HX:Hid (CopyInv w W0 m ga gb go ax by_ out w4):=copy_inv HK.out HOD.out (by omega) hcl2 HCT.out HRE.out HCE.out hg4.out hb4
      clear hg4 hb4
      go_wp2_with fail
      go_meet
      exact HX.out
     case rest =>
      have HC:Hid (MInv w W0 m ga gb go ax by_ (out.getD 0 0 :: out.take (m-1)) wc):=hcut
      have f0:wc.frozen? ⟨go,0,none⟩=false:=HC.out.2.2.1.frozen 0
      have c0:wc.cell? ⟨go,0,none⟩=some (.int .i64 ((out.getD 0 0:Nat):Int)):=by
       have:=HC.out.2.2.1.cell (j:=0) (by simp [nz])
       rw [this,qaF]
       rfl
      clear hcut HK HB9 d0 d1 t0
      clear wr
      go_wp2_with fail
      have HC1:Hid (MInv w W0 m ga gb go ax by_ (innK p m md ax (by_.getD k 0) out 0) (wc.setCell ⟨go,0,none⟩ (.int .i64 0))):=by
       have:=HC.out.set 0 0
       exact this
      clear HC f0 c0
      generalize wc.setCell ⟨go,0,none⟩ (.int .i64 0)=wd at *
      clear wc
      have HIL:=Lib.hid (fun j hj=>innK_set p m md ax (by_.getD k 0) out j hj HOD.out.1)
      have HIA:=Lib.hid (fun j hj=>innK_at p m md ax (by_.getD k 0) out j hj HOD.out.1)
      have HIE:=Lib.hid (innK_end p m md ax (by_.getD k 0) out HOD.out.1 (by omega))
      have htop:top<p:=by rw [<- HTOP.out];exact getD_lt (by omega) HOD.out _
      have hbk:by_.getD k 0<p:=getD_lt (by omega) HYD.out _
      have HSTA:Hid (∀ j,j<m->(stepM p m md ax (by_.getD k 0) out).getD j 0=((if j=0 then 0 else out.getD (j-1) 0)+(p-top)*(md:List Nat).getD j 0+by_.getD k 0*ax.getD j 0) % p):=fun j hj=>by rw [<- HTOP.out];exact stepM_at p m md ax (by_.getD k 0) out j hj
      go_loopw [54] (fun v54 wr=>RelI w W0 p m md ga gb go ax by_ (by_.getD k 0) out v54 wr) (fun v54 _=>m-(intOf v54).toNat)
      case atStart=>exact ⟨0,by omega,rfl,HC1.out⟩
      case round =>
       obtain ⟨j,hj,rfl,hinv⟩:=hrel
       have HV:=Lib.hid hinv
       have HB9:=Lib.hid hinv.2.2.2.2.2
       clear hinv HC1
       have d0:wr.cell? ⟨w.heap.size,0,none⟩=some (.int .i64 p):=(HB9.out.cell (p:=⟨w.heap.size,0,none⟩) (by show w.heap.size < _;omega)).trans (cell_of_row _ _ 0 _ _ _ HBLK.out)
       have d1:wr.cell? ⟨w.heap.size,1,none⟩=some (.int .i64 m):=(HB9.out.cell (p:=⟨w.heap.size,1,none⟩) (by show w.heap.size < _;omega)).trans (cell_of_row _ _ 1 _ _ _ HBLK.out)
       by_cases hlt:j<m
       . have HL := Lib.hid (innK_len (p := p) (md := md) (a := ax) (bi := by_.getD k 0) (Nat.le_of_lt hlt) (by omega) HOD.out.1)
         have q0:wr.cell? ⟨go,j,none⟩=some (.int .i64 ((if j=0 then 0 else out.getD (j-1) 0:Nat):Int)):=by
          rw [<- HIA.out j hlt,<- qaF]
          exact HV.out.2.2.1.cell (by rw [qaB,HL.out];exact hlt)
         have q1:wr.cell? ⟨ga,j,none⟩=some (.int .i64 ((ax.getD j 0:Nat):Int)):=by
          rw [<- qaF]
          exact HV.out.1.cell (by rw [qaB,HXD.out.1];exact hlt)
         have q2:wr.cell? ⟨gb,k,none⟩=some (.int .i64 ((by_.getD k 0:Nat):Int)):=by
          rw [<- qaF]
          exact HV.out.2.1.cell (by rw [qaB,HYD.out.1];exact hkm)
         have f0:wr.frozen? ⟨go,j,none⟩=false:=HV.out.2.2.1.frozen j
         have hsj:(if j=0 then 0 else out.getD (j-1) 0)<p:=by
          split
          . omega
          . exact getD_lt (by omega) HOD.out _
         have haj:ax.getD j 0<p:=getD_lt (by omega) HXD.out _
         have HSJ:=Lib.hid (HSTA.out j hlt)
         have HSET:=Lib.hid (HIL.out j hlt)
         obtain ⟨mb,mo,rfl,hmb,hmc⟩:=(HM.out.keep (HB0.out.trans (HB9.out.mono (Nat.le_succ _)))).at_ (k:=j) (by rw [qaB,HML.out];exact hlt)
         rw [qaF] at hmc
         have d2:wr.cell? ⟨w.heap.size,2,none⟩=some (.slice (some ⟨mb,mo,none⟩) m c):=(HB9.out.cell (p:=⟨w.heap.size,2,none⟩) (by show w.heap.size < _;omega)).trans (cell_of_row _ _ 2 _ _ _ HBLK.out)
         have hlo:md.getD j 0<p:=getD_lt (by omega) ⟨HML.out,HMD.out⟩ _
         generalize hlv:md.getD j 0=lo at *
         clear hlv hmb
         generalize hse:(if j=0 then 0 else out.getD (j-1) 0)=sj at *
         generalize hae:ax.getD j 0=aj at *
         generalize hbe:by_.getD k 0=bk at *
         clear hse hae hbe
         have hb1:=mul_le_256 (a:=p-top) (b:=lo) (by omega) (by omega)
         have hb2:=mul_le_256 (a:=bk) (b:=aj) (by omega) (by omega)
         have hpt:((p-top:Nat):Int)=(p:Int)-(top:Int):=by omega
         rw [hpt] at hb1
         obtain ⟨hb1a,hb1b⟩:=hb1
         obtain ⟨hb2a,hb2b⟩:=hb2
         have HRES:Hid (Int.tmod ((sj:Int)+((p:Int)-(top:Int))*(lo:Int)+(bk:Int)*(aj:Int)) (p:Int)=(((stepM p m md ax bk out).getD j 0:Nat):Int)):=by
          show _=_
          rw [HSJ.out,<- qbF]
          congr 1
          rw [Int.natCast_add,Int.natCast_add,Int.natCast_mul,Int.natCast_mul,hpt]
         clear hpt HSJ
         generalize hre:(stepM p m md ax bk out).getD j 0=res at *
         have i0':(0:Int)<=(j:Int):=by omega
         have i1':(j:Int)<((m:Nat):Int):=by omega
         have i2':(0:Int)<=(k:Int):=by omega
         have i3':(k:Int)<((m:Nat):Int):=by omega
         have hp0:((p:Int)==0)=false:=by simp;omega
         have e1:IntKind.i64.wrap ((p:Int)-(top:Int))=(p:Int)-(top:Int):=IntWalk.i64_in _ (by omega)
         have e2:IntKind.i64.wrap (((p:Int)-(top:Int))*(lo:Int))=((p:Int)-(top:Int))*(lo:Int):=IntWalk.i64_in _ (by omega)
         have e3:IntKind.i64.wrap ((sj:Int)+((p:Int)-(top:Int))*(lo:Int))=(sj:Int)+((p:Int)-(top:Int))*(lo:Int):=IntWalk.i64_in _ (by omega)
         have e4:IntKind.i64.wrap ((bk:Int)*(aj:Int))=(bk:Int)*(aj:Int):=IntWalk.i64_in _ (by omega)
         have e5:IntKind.i64.wrap ((sj:Int)+((p:Int)-(top:Int))*(lo:Int)+(bk:Int)*(aj:Int))=(sj:Int)+((p:Int)-(top:Int))*(lo:Int)+(bk:Int)*(aj:Int):=IntWalk.i64_in _ (by omega)
         have hp00:¬ p=0:=by omega
         have hp01:¬ (p:Int)=0:=by omega
         have hres:res<p:=by rw [<- hre];exact getD_lt (by omega) (stepM_dig (m:=m) (by omega) md ax bk out) j
         have e7:IntKind.i64.wrap (res:Int)=(res:Int):=IntWalk.i64_in _ (by omega)
         have E7:=Lib.hid e7
         clear e7 hre
         have E1:=Lib.hid e1
         have E2:=Lib.hid e2
         have E3:=Lib.hid e3
         have E4:=Lib.hid e4
         have E5:=Lib.hid e5
         clear e1 e2 e3 e4 e5
         go_upto_region 15 with fail
         have e1:=E1.out
         have e2:=E2.out
         have e3:=E3.out
         have e4:=E4.out
         have e5:=E5.out
         have e6:=HRES.out
         have e7:=E7.out
         go_still_tail 27,(by kernel_rfl)
         change wpList _ _ _ _ _ wr.drew
         have g0:wr.drew.cell? ⟨go,j,none⟩=some (.int .i64 (sj:Int)):=q0
         have g1:wr.drew.frozen? ⟨go,j,none⟩=false:=f0
         clear e1 e2 e3 e4 e5 e6 e7 q0 q1 q2 f0 d0 d1
         go_wp2_with fail
         have HFIN:Hid (MInv w W0 m ga gb go ax by_ (innK p m md ax bk out (j+1)) (wr.drew.setCell ⟨go,j,none⟩ (.int .i64 (res:Int)))):=by
          rw [<- HSET.out]
          exact MInv.set (MInv.drew HV.out) j res
         go_roundw
         case rel=>exact ⟨j+1,by omega,by go_num,HFIN.out⟩
         case measure=>simp [intOf];omega
       . obtain rfl : j = m := by omega
         rw [HIE.out,<- HST.out] at HV
         clear d0 d1 HB9
         go_wp2_with fail
         go_roundw
         case rel=>exact ⟨k,by omega,by go_num,HV.out⟩
         case measure=>simp [intOf]
end Go.Proofs.YtlmglaonldlanaaGreat
namespace Go.Proofs.YtlmglaonldlanaaGreat
open Go.RowKit Pln
set_option maxHeartbeats 1000000 in
set_option maxRecDepth 100000 in
theorem multiply_1 (p m x y:Nat) (A:Option Addr) (n c:Nat) (w:World) (hs:Small p m) (hm1':m<=1) (hx:x<p ^ m) (hy:y<p ^ m) :
 Calls Tryz.prog 155 #[.agg #[.int .i64 p,.int .i64 m,.slice A n c],.int .i64 x,.int .i64 y] w fun e w'=>e=.returned (.int .i64 ((mulM p m [0] x y:Nat):Int))/\Below w.heap.size w w':=by
 obtain ⟨hp1,hp2,hm1,hm2,hq⟩:=hs
 obtain ⟨i0,hi,hz0,hz1,hz2⟩:=qaG infoInt
 have HI:=Lib.hid hi
 have HZ0:=Lib.hid hz0
 have HZ1:=Lib.hid hz1
 have HB2:=Lib.hid (show i0.bytes*m<=281474976710656 by rw [hz2];omega)
 have HB3:=Lib.hid (show m<=maxLen by unfold maxLen;omega)
 clear hi hz0 hz1 hz2
 have HM1:=Lib.hid hm1'
 clear hm1'
 have hx2:x<=256:=by omega
 have hy2:y<=256:=by omega
 clear hx hy
 go_enter Tryz.func155,Tryz.ntmps155
 go_upto_region 1 with fail
 have hb0:Below w.heap.size w (w.alloc (.cells #[.int .i64 p,.int .i64 m,.slice A n c] 29)):=(Below.refl _ _).alloc (Nat.le_refl _) _
 have hblk:(w.alloc (.cells #[.int .i64 p,.int .i64 m,.slice A n c] 29)).heap[w.heap.size]?=some (.cells #[.int .i64 p,.int .i64 m,.slice A n c] 29 (0,0)):=heap_alloc_new _ _
 have hsz:(w.alloc (.cells #[.int .i64 p,.int .i64 m,.slice A n c] 29)).heap.size=w.heap.size+1:=by simp
 have HB0:=Lib.hid hb0
 have HBLK:=Lib.hid hblk
 have HSZ:=Lib.hid hsz
 clear hb0 hblk hsz
 generalize w.alloc (.cells #[.int .i64 p,.int .i64 m,.slice A n c] 29)=W0 at *
 have z0:W0.cell? ⟨w.heap.size,0,none⟩=some (.int .i64 p):=cell_of_row _ _ 0 _ _ _ HBLK.out
 have z1:W0.cell? ⟨w.heap.size,1,none⟩=some (.int .i64 m):=cell_of_row _ _ 1 _ _ _ HBLK.out
 go_cut [7,8] (fun v7 v8 wx=>CutAB w W0 p m x y v7 v8 wx)
 case first =>
  have hlt0:w.heap.size<W0.heap.size:=by have:=HSZ.out;omega
  go_region_held3 (fun w'=>w'.cell? ⟨w.heap.size,0,none⟩=some (.int .i64 p)/\w'.cell? ⟨w.heap.size,1,none⟩=some (.int .i64 m)/\w.heap.size<w'.heap.size)
   (first | go_keep | (go_split_ands;first | exact ⟨(hbd2.cell (p:=⟨w.heap.size,0,none⟩) (by assumption)).trans (by assumption),(hbd2.cell (p:=⟨w.heap.size,1,none⟩) (by assumption)).trans (by assumption),Nat.lt_of_lt_of_le (by assumption) hbd2.size⟩ | exact ⟨(hbd1.cell (p:=⟨w.heap.size,0,none⟩) (by assumption)).trans (by assumption),(hbd1.cell (p:=⟨w.heap.size,1,none⟩) (by assumption)).trans (by assumption),Nat.lt_of_lt_of_le (by assumption) hbd1.size⟩))
   (first | ((with_reducible refine (qdX x p m _ (by omega) (by omega) (by omega) (by omega)).mono ?_);rintro e wd1 ⟨rfl,hrowa,hbd1⟩) | ((with_reducible refine (qdX y p m _ (by omega) (by omega) (by omega) (by omega)).mono ?_);rintro e wd2 ⟨rfl,hrowb,hbd2⟩))
  have hX:CutAB w W0 p m x y (.slice (some ⟨W0.heap.size,0,none⟩) m m) (.slice (some ⟨wd1.heap.size,0,none⟩) m m) wd2:=by
   have e:=HSZ.out
   have e1:Below W0.heap.size W0 wd1:=⟨hbd1.os,hbd1.tape,hbd1.output,hbd1.size,hbd1.block⟩
   have r1:Row wd1 W0.heap.size W0.heap.size m (nz (digs p m x)):=hrowa
   have hs1:=hbd1.size
   have l1:=r1.lt
   refine ⟨_,_,rfl,rfl,(r1.below hbd2 l1.2).base (by omega),hrowb.base (by have:W0.heap.size<=wd1.heap.size:=e1.size;omega),?_⟩
   rw [<- e]
   exact e1.trans (hbd2.mono e1.size)
  have HX:=Lib.hid hX
  clear hrowa hrowb hbd1 hbd2 hX
  go_wp2_with fail
  go_meet
  exact HX.out
 case rest =>
  obtain ⟨ga,gb,rfl,rfl,hra,hrb,hbc⟩:=hcut
  have HRA:=Lib.hid hra
  have HRB:=Lib.hid hrb
  have HBC:=Lib.hid hbc
  have hsc:w.heap.size+1<=wc.heap.size:=by have:=hbc.size;have:=HSZ.out;omega
  have y1:wc.cell? ⟨w.heap.size,1,none⟩=some (.int .i64 m):=(hbc.cell (p:=⟨w.heap.size,1,none⟩) (by show w.heap.size < _;omega)).trans z1
  clear hra hrb hbc z0 z1
  go_wp2_with (refine wpList_make_full wc rfl (.tmp 27) (.tmp 27) 23 rfl (w.heap.size+1) 3 i0 (.int .i64 0) 1 Tryz.underlying23 HI.out HZ0.out HZ1.out .i64 .i64 m m m rfl rfl rfl rfl HB2.out HB3.out hsc ?_;intro w1 hown hgr;have x1:w1.cell? ⟨w.heap.size,1,none⟩=some (.int .i64 m):=(hgr.cell y1 (by simp)))
  have hrl:=HRA.out.lt.2
  have hrl2:=HRB.out.lt.2
  have HI1:Hid (MInv w W0 m ga gb wc.heap.size (digs p m x) (digs p m y) (List.replicate m 0) w1) :=
   ⟨HRA.out.grown hgr (by simp),HRB.out.grown hgr (by simp),Row.of_make hown,by omega,by omega,HBC.out.grown hgr hsc (fun _ h=>by cases h)⟩
  clear hown hgr hrl hrl2 y1 HRA HRB HBC
  generalize wc.heap.size=go at *
  clear hsc
  clear wc
  go_loopw [10] (fun v10 wr=>RelM w W0 p m [0] ga gb go (digs p m x) (digs p m y) v10 wr) (fun v10 _=>(intOf v10+1).toNat)
  case atStart=>exact ⟨m,Nat.le_refl _,by simp,by rw [List.drop_of_length_le (by rw [qaK];exact Nat.le_refl _)];exact HI1.out⟩
  case round =>
   obtain ⟨k,hk,rfl,hinv⟩:=hrel
   have HV:=Lib.hid hinv
   have HB9:=Lib.hid hinv.2.2.2.2.2
   have d0:wr.cell? ⟨w.heap.size,0,none⟩=some (.int .i64 p):=(HB9.out.cell (p:=⟨w.heap.size,0,none⟩) (by show w.heap.size < _;omega)).trans (cell_of_row _ _ 0 _ _ _ HBLK.out)
   have d1:wr.cell? ⟨w.heap.size,1,none⟩=some (.int .i64 m):=(HB9.out.cell (p:=⟨w.heap.size,1,none⟩) (by show w.heap.size < _;omega)).trans (cell_of_row _ _ 1 _ _ _ HBLK.out)
   clear hinv HI1 x1
   rcases k with _ | k
   . have HV0 : Hid (Row wr (w.heap.size + 1) go m (nz (mulL p m [0] (digs p m x) (digs p m y)))) := HV.out.2.2.1
     have HD:=Lib.hid (qaY (m:=m) (by omega:0<p) [0] (digs p m x) (digs p m y))
     have hgo:=HV0.out.lt.2
     have HF:Hid (Below w.heap.size w wr):=HB0.out.trans (HB9.out.mono (Nat.le_succ _))
     have HE:Hid (mulM p m [0] x y=val p (mulL p m [0] (digs p m x) (digs p m y))):=rfl
     clear HV HB9
     generalize mulL p m [0] (digs p m x) (digs p m y)=L at *
     go_wp2_with fail
     (with_reducible refine (valueOf_n (some ⟨go,0,none⟩) L m m p wr (HV0.out.ints hgo) (by omega) HD.out (by omega) (by omega) (by omega)).mono ?_)
     rintro e w' ⟨rfl,rfl⟩
     go_wp2_with fail
     go_ret
     exact ⟨qaD (by rw [HE.out]),HF.out⟩
   . have hk1 : ((k + 1 : Nat) : Int) - 1 = (k : Int) := by omega
     rw [hk1]
     clear hk1
     have hkm:k<m:=by omega
     obtain ⟨hra,hrb,hro,hne1,hne2,hlast⟩:=HV.out
     have HST:Hid (mulL p m [0] (digs p m x) ((digs p m y).drop k)=stepM p m [0] (digs p m x) ((digs p m y).getD k 0) (mulL p m [0] (digs p m x) ((digs p m y).drop (k+1)))):=mulL_drop p m [0] _ _ k (by rw [qaK];exact hkm)
     have HOD:=Lib.hid (qaY (m:=m) (by omega:0<p) [0] (digs p m x) ((digs p m y).drop (k+1)))
     have HXD:=Lib.hid (qcV (by omega:0<p) m x)
     have HYD:=Lib.hid (qcV (by omega:0<p) m y)
     have HK:Hid (MInv w W0 m ga gb go (digs p m x) (digs p m y) (mulL p m [0] (digs p m x) ((digs p m y).drop (k+1))) wr):=HV.out
     clear HV
     generalize mulL p m [0] (digs p m x) ((digs p m y).drop (k+1))=out at *
     have HNX:Hid (digs p m x=digs p m x):=rfl
     generalize hax:digs p m x=ax at *
     generalize hby:digs p m y=by_ at *
     clear hax hby HNX
     obtain ⟨top,htope⟩:∃ t,out.getD (m-1) 0=t:=⟨_,rfl⟩
     have HTOP:=Lib.hid htope
     have t0:wr.cell? ⟨go,m-1,none⟩=some (.int .i64 (top:Int)):=by rw [<- htope,<- qaF];exact hro.cell (by rw [qaB,HOD.out.1];omega)
     clear hra hrb hro hlast hne1 hne2 htope
     go_upto_region 7 with fail
     go_cut [49] (fun v wx=>CopyInv w W0 m ga gb go ax by_ out wx)
     case first =>
      obtain ⟨cur,hcur,hcl,hct,hre⟩:=HK.out.2.2.1.cur
      have HCUR:=Lib.hid hcur
      have HCL:=Lib.hid hcl
      have HCT:=Lib.hid hct
      have HRE:=Lib.hid hre
      have hcl2:m<=cur.length:=by rw [qaB,HOD.out.1] at hcl;exact hcl
      have HCS:Hid ((((nz out).take (m-1)).map (Value.int .i64)).length=m-1):=by show _=_;rw [List.length_map,List.length_take,qaB,HOD.out.1];omega
      have HC4:Hid (∀ v∈((nz out).take (m-1)).map (Value.int .i64),v.oneCell'=true):=fun v hv=>by obtain ⟨z,_,rfl⟩:=List.mem_map.1 hv;rfl
      have HCC:Hid (∀ (j:Nat) (v:Value),(((nz out).take (m-1)).map (Value.int .i64))[j]?=some v->wr.cell? ((⟨go,0,none⟩:Addr).add j)=some v):=fun j v hv=>copy_src HK.out.2.2.1 hv
      clear hcur hcl hct hre t0
      have j1:(1:Int)<=(m:Int):=by omega
      have j2:∀ (a b:Option Addr),(if m=1 then a else b)=a:=fun a b=>if_pos (by have:=HM1.out;omega)
      have j3:(m:Int)-1<=(m:Int):=by omega
      have j5:((m:Int)-1).toNat=m-1:=by omega
      have j7:(0:Int)<=(m:Int)-1:=by omega
      generalize hcse:((nz out).take (m-1)).map (Value.int .i64)=cs at *
      have HCE:=Lib.hid hcse
      clear hcse
      have HFIT:Hid (1+cs.length<=cur.length):=by show _<=_;rw [HCS.out];omega
      have j6:IntKind.i64.wrap ((m:Int)-1)=(m:Int)-1:=IntWalk.i64_in _ (by omega)
      go_region_law (refine step_copy_splice rfl (.tmp 43) (.tmp 48) 23 23 rfl 3 Tryz.underlying23 sizeInt _ _ _ _ _ _ rfl rfl go 1 cur 3 HCUR.out cs (by rw [HCS.out];simp) (fun hp0=>absurd hp0 (by rw [HCS.out];have:=HM1.out;omega)) HFIT.out HC4.out go wr (Below.refl _ _).drew (Nat.le_refl _) ?_;intro w4 hg4 hb4)
      clear j6
      have HX:Hid (CopyInv w W0 m ga gb go ax by_ out w4):=copy_inv HK.out HOD.out (by omega) hcl2 HCT.out HRE.out HCE.out hg4.out hb4
      clear hg4 hb4
      go_wp2_with fail
      go_meet
      exact HX.out
     case rest =>
      have HC:Hid (MInv w W0 m ga gb go ax by_ (out.getD 0 0 :: out.take (m-1)) wc):=hcut
      have f0:wc.frozen? ⟨go,0,none⟩=false:=HC.out.2.2.1.frozen 0
      have c0:wc.cell? ⟨go,0,none⟩=some (.int .i64 ((out.getD 0 0:Nat):Int)):=by
       have:=HC.out.2.2.1.cell (j:=0) (by simp [nz])
       rw [this,qaF]
       rfl
      clear hcut HK HB9 d0 d1 t0
      clear wr
      go_wp2_with fail
      have HC1:Hid (MInv w W0 m ga gb go ax by_ (innK p m [0] ax (by_.getD k 0) out 0) (wc.setCell ⟨go,0,none⟩ (.int .i64 0))):=by
       have:=HC.out.set 0 0
       exact this
      clear HC f0 c0
      generalize wc.setCell ⟨go,0,none⟩ (.int .i64 0)=wd at *
      clear wc
      have HIL:=Lib.hid (fun j hj=>innK_set p m [0] ax (by_.getD k 0) out j hj HOD.out.1)
      have HIA:=Lib.hid (fun j hj=>innK_at p m [0] ax (by_.getD k 0) out j hj HOD.out.1)
      have HIE:=Lib.hid (innK_end p m [0] ax (by_.getD k 0) out HOD.out.1 (by omega))
      have htop:top<p:=by rw [<- HTOP.out];exact getD_lt (by omega) HOD.out _
      have hbk:by_.getD k 0<p:=getD_lt (by omega) HYD.out _
      have HSTA:Hid (∀ j,j<m->(stepM p m [0] ax (by_.getD k 0) out).getD j 0=((if j=0 then 0 else out.getD (j-1) 0)+(p-top)*([0]:List Nat).getD j 0+by_.getD k 0*ax.getD j 0) % p):=fun j hj=>by rw [<- HTOP.out];exact stepM_at p m [0] ax (by_.getD k 0) out j hj
      go_loopw [54] (fun v54 wr=>RelI w W0 p m [0] ga gb go ax by_ (by_.getD k 0) out v54 wr) (fun v54 _=>m-(intOf v54).toNat)
      case atStart=>exact ⟨0,by omega,rfl,HC1.out⟩
      case round =>
       obtain ⟨j,hj,rfl,hinv⟩:=hrel
       have HV:=Lib.hid hinv
       have HB9:=Lib.hid hinv.2.2.2.2.2
       clear hinv HC1
       have d0:wr.cell? ⟨w.heap.size,0,none⟩=some (.int .i64 p):=(HB9.out.cell (p:=⟨w.heap.size,0,none⟩) (by show w.heap.size < _;omega)).trans (cell_of_row _ _ 0 _ _ _ HBLK.out)
       have d1:wr.cell? ⟨w.heap.size,1,none⟩=some (.int .i64 m):=(HB9.out.cell (p:=⟨w.heap.size,1,none⟩) (by show w.heap.size < _;omega)).trans (cell_of_row _ _ 1 _ _ _ HBLK.out)
       by_cases hlt:j<m
       . have HL := Lib.hid (innK_len (p := p) (md := [0]) (a := ax) (bi := by_.getD k 0) (Nat.le_of_lt hlt) (by omega) HOD.out.1)
         have q0:wr.cell? ⟨go,j,none⟩=some (.int .i64 ((if j=0 then 0 else out.getD (j-1) 0:Nat):Int)):=by
          rw [<- HIA.out j hlt,<- qaF]
          exact HV.out.2.2.1.cell (by rw [qaB,HL.out];exact hlt)
         have q1:wr.cell? ⟨ga,j,none⟩=some (.int .i64 ((ax.getD j 0:Nat):Int)):=by
          rw [<- qaF]
          exact HV.out.1.cell (by rw [qaB,HXD.out.1];exact hlt)
         have q2:wr.cell? ⟨gb,k,none⟩=some (.int .i64 ((by_.getD k 0:Nat):Int)):=by
          rw [<- qaF]
          exact HV.out.2.1.cell (by rw [qaB,HYD.out.1];exact hkm)
         have f0:wr.frozen? ⟨go,j,none⟩=false:=HV.out.2.2.1.frozen j
         have hsj:(if j=0 then 0 else out.getD (j-1) 0)<p:=by
          split
          . omega
          . exact getD_lt (by omega) HOD.out _
         have haj:ax.getD j 0<p:=getD_lt (by omega) HXD.out _
         have HSJ:=Lib.hid (HSTA.out j hlt)
         have HSET:=Lib.hid (HIL.out j hlt)
         have hlo:(0:Nat)<p:=by omega
         have HLO:Hid (([0]:List Nat).getD j 0=0):=by show _=_;rcases j with _ | j <;> simp [List.getD]
         generalize hlv:([0]:List Nat).getD j 0=lo at *
         obtain rfl:lo=0:=HLO.out
         generalize hse:(if j=0 then 0 else out.getD (j-1) 0)=sj at *
         generalize hae:ax.getD j 0=aj at *
         generalize hbe:by_.getD k 0=bk at *
         clear hse hae hbe
         have hb2:=mul_le_256 (a:=bk) (b:=aj) (by omega) (by omega)
         have hpt:((p-top:Nat):Int)=(p:Int)-(top:Int):=by omega
         obtain ⟨hb2a,hb2b⟩:=hb2
         have HRES:Hid (Int.tmod ((sj:Int)+(bk:Int)*(aj:Int)) (p:Int)=(((stepM p m [0] ax bk out).getD j 0:Nat):Int)):=by
          show _=_
          rw [HSJ.out,<- qbF]
          simp
         clear hpt HSJ
         generalize hre:(stepM p m [0] ax bk out).getD j 0=res at *
         have i0':(0:Int)<=(j:Int):=by omega
         have i1':(j:Int)<((m:Nat):Int):=by omega
         have i2':(0:Int)<=(k:Int):=by omega
         have i3':(k:Int)<((m:Nat):Int):=by omega
         have hp0:((p:Int)==0)=false:=by simp;omega
         have e1:IntKind.i64.wrap ((p:Int)-(top:Int))=(p:Int)-(top:Int):=IntWalk.i64_in _ (by omega)
         have e2:IntKind.i64.wrap 0=0:=IntWalk.i64_in _ (by omega)
         have e3:IntKind.i64.wrap (sj:Int)=(sj:Int):=IntWalk.i64_in _ (by omega)
         have e4:IntKind.i64.wrap ((bk:Int)*(aj:Int))=(bk:Int)*(aj:Int):=IntWalk.i64_in _ (by omega)
         have e5:IntKind.i64.wrap ((sj:Int)+(bk:Int)*(aj:Int))=(sj:Int)+(bk:Int)*(aj:Int):=IntWalk.i64_in _ (by omega)
         have hp00:¬ p=0:=by omega
         have hp01:¬ (p:Int)=0:=by omega
         have hres:res<p:=by rw [<- hre];exact getD_lt (by omega) (stepM_dig (m:=m) (by omega) [0] ax bk out) j
         have e7:IntKind.i64.wrap (res:Int)=(res:Int):=IntWalk.i64_in _ (by omega)
         have E7:=Lib.hid e7
         clear e7 hre
         have E1:=Lib.hid e1
         have E2:=Lib.hid e2
         have E3:=Lib.hid e3
         have E4:=Lib.hid e4
         have E5:=Lib.hid e5
         clear e1 e2 e3 e4 e5
         have hm1':=HM1.out
         go_upto_region 15 with fail
         have e1:=E1.out
         have e2:=E2.out
         have e3:=E3.out
         have e4:=E4.out
         have e5:=E5.out
         have e6:=HRES.out
         have e7:=E7.out
         go_still_tail 27,(by kernel_rfl)
         change wpList _ _ _ _ _ wr.drew
         have g0:wr.drew.cell? ⟨go,j,none⟩=some (.int .i64 (sj:Int)):=q0
         have g1:wr.drew.frozen? ⟨go,j,none⟩=false:=f0
         clear e1 e2 e3 e4 e5 e6 e7 q0 q1 q2 f0 d0 d1
         go_wp2_with fail
         have HFIN:Hid (MInv w W0 m ga gb go ax by_ (innK p m [0] ax bk out (j+1)) (wr.drew.setCell ⟨go,j,none⟩ (.int .i64 (res:Int)))):=by
          rw [<- HSET.out]
          exact MInv.set (MInv.drew HV.out) j res
         go_roundw
         case rel=>exact ⟨j+1,by omega,by go_num,HFIN.out⟩
         case measure=>simp [intOf];omega
       . obtain rfl : j = m := by omega
         rw [HIE.out,<- HST.out] at HV
         clear d0 d1 HB9
         go_wp2_with fail
         go_roundw
         case rel=>exact ⟨k,by omega,by go_num,HV.out⟩
         case measure=>simp [intOf]
theorem multiply_c (p m x y:Nat) (A:Option Addr) (n c:Nat) (md:List Nat) (w:World) (hs:Small p m) (hM:ModAt w w.heap.size m A n md) (hmd:∀ d∈md,d<p) (hx:x<p ^ m) (hy:y<p ^ m) :
 Calls Tryz.prog 155 #[.agg #[.int .i64 p,.int .i64 m,.slice A n c],.int .i64 x,.int .i64 y] w fun e w'=>e=.returned (.int .i64 ((mulM p m md x y:Nat):Int))/\Below w.heap.size w w':=by
 rcases hM with ⟨rfl,rfl⟩ | ⟨h1,rfl,h3,h4⟩
 . exact multiply_1 p 1 x y A n c w hs (Nat.le_refl _) hx hy
 . exact multiply_n p n x y A c md w hs h1 h4 h3 hmd hx hy
end Go.Proofs.YtlmglaonldlanaaGreat
