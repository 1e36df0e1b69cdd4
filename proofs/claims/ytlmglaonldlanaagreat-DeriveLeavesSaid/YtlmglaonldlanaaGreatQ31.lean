/-
 The reference: Null.
-/
import Derived.Test.YtlmglaonldlanaaGreatQ30
import Derived.Test.YtlmglaonldlanaaGreatQ29
namespace Go.Proofs.YtlmglaonldlanaaGreat
open Go.RowKit Pln
theorem LGrid.wide {w:World} {B:Nat} {v:Value} {rows:List (List Nat)} {bs:List (Nat × Nat)} (h:LGrid w B v rows bs rows.length) (x:List Nat):LGrid w B v (rows++[x]) bs rows.length:=by
 have e:∀ i,i<rows.length->(rows++[x]).getD i []=rows.getD i []:=fun i hi=>qbS hi
 refine ⟨h.len,by simp,?_,fun i hi=>by rw [e i hi];exact h.row i hi,h.apart⟩
 have e2:(List.range rows.length).map (hdr (rows++[x]) bs)=(List.range rows.length).map (hdr rows bs):=List.map_congr_left fun i hi=>by
  unfold hdr
  rw [e i (List.mem_range.1 hi)]
 rw [e2]
 exact h.out
def RelN1 (w1:World) (cols:Nat) (v10:Value) (wr:World):Prop :=
 ∃ (k:Nat) (zs:List Int),k<=cols/\v10=.int .i64 k/\Row wr w1.heap.size w1.heap.size cols zs/\zs.length=cols/\Below w1.heap.size w1 wr
def RelN2 (w1:World) (cols np:Nat) (v11:Value) (wr:World):Prop :=
 ∃ (k:Nat) (zs:List Int),k<=np/\v11=.int .i64 k/\Row wr w1.heap.size w1.heap.size cols zs/\zs.length=cols/\Below w1.heap.size w1 wr
def RowsOk (q cols:Nat) (R:List (List Nat)):Prop:=∀ r∈R,r.length=cols/\∀ x∈r,x<q
def RelN3 (w3:World) (q cols:Nat) (v12 v13:Value) (wr:World):Prop :=
 ∃ (t:Nat) (R:List (List Nat)) (bs:List (Nat × Nat)),t<=cols/\v13=.int .i64 t/\LGrid wr w3.heap.size v12 R bs R.length/\R.length<=t/\RowsOk q cols R/\Below w3.heap.size w3 wr
def RelN4 (w4:World) (q cols np:Nat) (v15:Value) (wr:World):Prop :=
 ∃ (i:Nat) (l:List Nat),i<=np/\v15=.int .i64 i/\Row wr w4.heap.size w4.heap.size cols (nz l)/\l.length=cols/\(∀ x∈l,x<q)/\Below w4.heap.size w4 wr
def NSc (w:World) (cs:List Value) (bp op br or' bx ox i t cols ci pv x:Nat) (W:World):Prop :=
 BX w cs 29 W/\W.cell? ⟨bp,op+i,none⟩=some (.int .i64 pv)/\W.cell? ⟨br,or'+i,none⟩=some (.slice (some ⟨bx,ox,none⟩) cols ci)/\W.cell? ⟨bx,ox+t,none⟩=some (.int .i64 x)
theorem NSc.keep {w:World} {cs:List Value} {bp op br or' bx ox i t cols ci pv x:Nat} {W W':World} (h:NSc w cs bp op br or' bx ox i t cols ci pv x W) (hb:Below W.heap.size W W'):NSc w cs bp op br or' bx ox i t cols ci pv x W' :=
 ⟨h.1.grow hb,(hb.cell (p:=⟨bp,op+i,none⟩) (World.block_lt_of_cell? W _ h.2.1)).trans h.2.1,(hb.cell (p:=⟨br,or'+i,none⟩) (World.block_lt_of_cell? W _ h.2.2.1)).trans h.2.2.1,(hb.cell (p:=⟨bx,ox+t,none⟩) (World.block_lt_of_cell? W _ h.2.2.2)).trans h.2.2.2⟩
def NullPost (w:World) (q cols:Nat) (e:Ending) (w':World):Prop :=
 (∃ (A':Option Addr) (R:List (List Nat)) (ck:Nat),e=.returned (.slice A' R.length ck)/\RowsAt w' w'.heap.size A' (nzs R)/\Grid q R.length cols R/\R.length<=256)/\Below w.heap.size w w'
set_option maxHeartbeats 4000000 in
set_option maxRecDepth 100000 in
theorem rnull_c (p m:Nat) (md:List Nat) (A:Option Addr) (n cA:Nat) (rows:List (List Nat)) (A2:Option Addr) (c2 cols:Nat) (w:World) (hR:RFld p m md A n w.heap.size w) (hf:∃ l,FT p m md l) (hgr:Grid (p ^ m) rows.length cols rows) (hA:RowsAt w w.heap.size A2 (nzs rows)) (h1:1<=cols) (hc:cols<=256) (hn:rows.length<=256) :
 Calls Tryz.prog 93 #[.agg #[.int .i64 p,.int .i64 m,.slice A n cA],.slice A2 rows.length c2,.int .i64 cols] w (NullPost w (p ^ m) cols):=by
 have HX:=Lib.hid (qcY w [.int .i64 (p:Int),.int .i64 (m:Int),.slice A n cA] 29)
 have HE:=Lib.hid (qfP hR hf)
 have hq1:1<p ^ m:=by have h1:=hR.small.p1;have h2:=hR.small.m1;exact Nat.one_lt_pow (by omega) (by omega)
 have HCN:Hid (∀ (R:List (List Nat)) (A2:Option Addr) (c2:Nat) (W:World),Below w.heap.size w W->Grid (p ^ m) R.length cols R->RowsAt W W.heap.size A2 (nzs R)->R.length<=256->Calls Tryz.prog 37 #[.agg #[.int .i64 p,.int .i64 m,.slice A n cA],.slice A2 R.length c2,.int .i64 cols] W fun e w'=>(∃ (A':Option Addr) (ck:Nat) (VA:Option Addr) (c3:Nat),e=.returned (.tuple #[.slice A' (canonM (refOps p m md) R cols).length ck,.slice VA (elGo (refOps p m md) R cols).piv.length c3])/\RowsUp w' W.heap.size A' (nzs (canonM (refOps p m md) R cols))/\IntsAt w' w'.heap.size VA (nz (elGo (refOps p m md) R cols).piv))/\Below W.heap.size W w'):=fun R A2 c2 W hW hg hra hl =>
  rcanon_c p m md A n cA R A2 c2 cols W ((hR.keep hW).more hW.size) hf hg hra h1 hc hl
 have HNEG:Hid (∀ (x:Nat) (W:World),x<p ^ m->Calls Tryz.prog 150 #[.agg #[.int .i64 p,.int .i64 m,.slice A n cA],.int .i64 x] W fun e w'=>e=.returned (.int .i64 (((refOps p m md).neg x:Nat):Int))/\Below W.heap.size W w'):=fun x W hx=>rneg_c p m A n cA x W hR.small hx
 have HGC:Hid (∀ R:List (List Nat),Grid (p ^ m) R.length cols R->Grid (p ^ m) (canonM (refOps p m md) R cols).length cols (canonM (refOps p m md) R cols)):=fun R hg=>by
  rw [qbH]
  exact qdC HE.out hg
 have HCL:Hid (∀ R:List (List Nat),(canonM (refOps p m md) R cols).length=(elGo (refOps p m md) R cols).piv.length/\(elGo (refOps p m md) R cols).piv.length<=R.length):=fun R=>⟨qbH _ _ _,(qbW (O:=refOps p m md) R cols).2⟩
 have HPL:Hid (∀ i,i<(elGo (refOps p m md) rows cols).piv.length->(elGo (refOps p m md) rows cols).piv.getD i 0<cols):=fun i hi=>by
  have:∀ (l:List Nat) (hj:i<l.length),l.getD i 0=l[i]:=fun l hj=>by simp [List.getD,hj]
  rw [this _ hi]
  exact qdK _ _ _ _ (List.getElem_mem _)
 obtain ⟨i0,hi,hz0,hz1,hz2⟩:=qaG infoInt
 obtain ⟨i00,hi',hz0',hz1',hz2'⟩:=qaG infoInts
 have HI:=Lib.hid hi
 have HZ0:=Lib.hid hz0
 have HZ1:=Lib.hid hz1
 have HI':=Lib.hid hi'
 have HZ0':=Lib.hid hz0'
 have HZ1':=Lib.hid hz1'
 have HZ2':=Lib.hid hz2'
 have HB2:=Lib.hid (show i0.bytes*cols<=281474976710656 by rw [hz2];omega)
 have HB3:=Lib.hid (show cols<=maxLen by unfold maxLen;omega)
 have HGR:=Lib.hid hgr
 have HA:=Lib.hid hA
 clear hi hz0 hz1 hz2 hi' hz0' hz1' hz2' hR hf hgr hA
 generalize refOps p m md=O at *
 generalize p ^ m=q at *
 go_enter Tryz.func93,Tryz.ntmps93
 go_upto_region 1 with fail
 generalize w.alloc (.cells #[.int .i64 (p:Int),.int .i64 (m:Int),.slice A n cA] 29)=W0 at *
 have HRG:=Lib.hid HX.out.range
 have HC1:=Lib.hid (HCN.out rows A2 c2 W0 HX.out.below HGR.out ((HA.out.keep HX.out.below).more HX.out.below.size) hn)
 obtain ⟨hcl,hpl⟩:=HCL.out rows
 have HCG:=Lib.hid (HGC.out rows HGR.out)
 clear HA HGR
 generalize (elGo O rows cols).piv=piv at *
 generalize canonM O rows cols=cr at *
 go_wp2_with (refine wpList_load_mid rfl 29 (.tmp 3) rfl w.heap.size 0 rfl [.int .i64 (p:Int),.int .i64 (m:Int),.slice A n cA] _ HRG.out Tryz.underlying29 rfl fieldSize ?_)
 (with_reducible refine HC1.out.mono ?_)
 rintro e w1 ⟨⟨A',ck,VA,c3,rfl,hra,hia⟩,hb1⟩
 have HX1:=Lib.hid (HX.out.grow hb1)
 have HRA:=Lib.hid hra.rowsAt
 have HIA:=Lib.hid hia
 clear hb1 hra hia HC1 HX HRG
 clear W0
 have hpn:piv.length<=256:=by omega
 generalize hnp:piv.length=np at *
 go_wp2_with (refine wpList_make_full w1 rfl (.tmp 23) (.tmp 23) 23 rfl w1.heap.size 3 i0 (.int .i64 0) 1 Tryz.underlying23 HI.out HZ0.out HZ1.out .i64 .i64 cols cols cols rfl rfl rfl rfl HB2.out HB3.out (Nat.le_refl _) ?_;intro w2 hown hgrn)
 have HS0:Hid (RelN1 w1 cols (.int .i64 ((0:Nat):Int)) w2):=⟨0,nz (List.replicate cols 0),Nat.zero_le _,rfl,by have:=Row.of_make hown;exact this,by rw [qaB];simp,qaL hgrn⟩
 clear hown hgrn
 go_wp2_with fail
 go_loopw [10] (fun v10 wr=>RelN1 w1 cols v10 wr) (fun v10 _=>cols-(intOf v10).toNat)
 case atStart=>exact HS0.out
 case round =>
  obtain ⟨k,zs,hk,rfl,hrow,hzl,hb⟩:=hrel
  have HR:=Lib.hid hrow
  have HB:=Lib.hid hb
  clear hrow hb HS0
  by_cases hlt:k<cols
  . have k0 : (0 : Int) <= (k : Int) := by omega
    have k1:(k:Int)<(cols:Int):=by omega
    have hw1:IntKind.i64.wrap ((k:Int)+1)=(k:Int)+1:=IntWalk.i64_in _ (by omega)
    have f0:=HR.out.frozen k
    have y0:=HR.out.cell (j:=k) (by omega)
    have HR2:=Lib.hid (HR.out.set k (-1))
    have HBB:=Lib.hid (HB.out.setCell (p:=⟨w1.heap.size,k,none⟩) (Nat.le_refl _) (.int .i64 (-1)))
    go_wp2_with fail
    go_roundw
    case rel=>exact ⟨k+1,zs.set k (-1),by omega,by go_num,HR2.out,by rw [List.length_set];exact hzl,HBB.out⟩
    case measure=>simp [intOf];omega
  . have k1 : ¬ (k : Int) < (cols : Int) := by omega
    have HS1:Hid (RelN2 w1 cols np (.int .i64 ((0:Nat):Int)) wr):=⟨0,zs,Nat.zero_le _,rfl,HR.out,hzl,HB.out⟩
    clear HR HB hzl
    obtain rfl:cols=k:=by omega
    clear hk k1 hlt
    clear zs
    obtain ⟨w2',rfl⟩:∃ w',w'=wr:=⟨_,rfl⟩
    go_wp2_with fail
    go_loopw [11] (fun v11 wr=>RelN2 w1 cols np v11 wr) (fun v11 _=>np-(intOf v11).toNat)
    case atStart=>exact HS1.out
    case round =>
     obtain ⟨k,zs,hk,rfl,hrow,hzl,hb⟩:=hrel
     have HR:=Lib.hid hrow
     have HB:=Lib.hid hb
     clear hrow hb HS1
     by_cases hlt:k<np
     . obtain ⟨bp,op,rfl,hbp,hcp⟩ := (HIA.out.keep HB.out).at_ (k := k) (by rw [qaB,hnp];exact hlt)
       rw [qaF] at hcp
       have hpv:=HPL.out k hlt
       generalize piv.getD k 0=pv at *
       have k0:(0:Int)<=(k:Int):=by omega
       have k1:(k:Int)<(np:Int):=by omega
       have p0:(0:Int)<=(pv:Int):=by omega
       have p1:(pv:Int)<(cols:Int):=by omega
       have hw1:IntKind.i64.wrap ((k:Int)+1)=(k:Int)+1:=IntWalk.i64_in _ (by omega)
       have f0:=HR.out.frozen pv
       have y0:=HR.out.cell (j:=pv) (by omega)
       have HR2:=Lib.hid (HR.out.set pv (k:Int))
       have HBB:=Lib.hid (HB.out.setCell (p:=⟨w1.heap.size,pv,none⟩) (Nat.le_refl _) (.int .i64 (k:Int)))
       go_wp2_with fail
       go_roundw
       case rel=>exact ⟨k+1,zs.set pv (k:Int),by omega,by go_num,HR2.out,by rw [List.length_set];exact hzl,HBB.out⟩
       case measure=>simp [intOf];omega
     . have k1 : ¬ (k : Int) < (np : Int) := by omega
       obtain ⟨w3,rfl⟩:∃ w',w'=wr:=⟨_,rfl⟩
       have HX3:=Lib.hid (HX1.out.grow HB.out)
       have HRA3:=Lib.hid ((HRA.out.keep HB.out).more HB.out.size)
       have HIA3:=Lib.hid ((HIA.out.keep HB.out).more HB.out.size)
       have hg3:=HR.out.lt.2
       have HL0:Hid (RelN3 w3 q cols (.slice none 0 0) (.int .i64 ((0:Nat):Int)) w3):=⟨0,[],[],by omega,rfl,⟨rfl,Nat.zero_le _,World.ownsRow_nil _ _ _ _,fun i hi=>by simp at hi,fun i hi=>by simp at hi⟩,Nat.zero_le _,fun r hr=>by simp at hr,Below.refl _ _⟩
       clear HX1 HRA HIA HB
       go_wp2_with fail
       generalize w1.heap.size=g1 at *
       go_loopw [12,13] (fun v12 v13 wr=>RelN3 w3 q cols v12 v13 wr) (fun _ v13 _=>cols-(intOf v13).toNat)
       case atStart=>exact HL0.out
       case round =>
        obtain ⟨t,R,bs,ht,rfl,hlg,hrt,hro,hb⟩:=hrel
        obtain ⟨VO,co,rfl,_⟩:=qbO hlg.out
        have HLG:=Lib.hid hlg
        have HB:=Lib.hid hb
        have HRO:=Lib.hid hro
        have hwr:=hb.size
        clear hlg hb hro HL0
        obtain ⟨w4,rfl⟩:∃ w',w'=wr:=⟨_,rfl⟩
        by_cases hlt3:t<cols
        . have t0 : (0 : Int) <= (t : Int) := by omega
          have t1:(t:Int)<(cols:Int):=by omega
          have hw1:IntKind.i64.wrap ((t:Int)+1)=(t:Int)+1:=IntWalk.i64_in _ (by omega)
          have y0:w4.cell? ⟨g1,t,none⟩=some (.int .i64 (zs.getD t 0)):=(HB.out.cell (p:=⟨g1,t,none⟩) hg3).trans (HR.out.cell (by omega))
          generalize zs.getD t 0=z at *
          by_cases hz:0<=z
          . go_wp2_with fail
            go_roundw
            case rel=>exact ⟨t+1,R,bs,by omega,by go_num,HLG.out,by omega,HRO.out,HB.out⟩
            case measure=>simp [intOf];omega
          . go_upto_region 16 with fail
            go_wp2_with (refine wpList_make_full w4 rfl (.tmp 56) (.tmp 56) 23 rfl w4.heap.size 3 i0 (.int .i64 0) 1 Tryz.underlying23 HI.out HZ0.out HZ1.out .i64 .i64 cols cols cols rfl rfl rfl rfl HB2.out HB3.out (Nat.le_refl _) ?_;intro w5 hown hgrn;have r0:w5.cell? ⟨w4.heap.size,t,none⟩=some (.int .i64 0):=(by have h:=(Row.of_make hown).cell (j:=t) (by rw [qaB,List.length_replicate];exact hlt3);rw [qaF,show (List.replicate cols 0).getD t 0=0 from by simp [List.getD,hlt3]] at h;exact h);have rf:=(Row.of_make hown).frozen t)
            have HR5:Hid (Row w5 w4.heap.size w4.heap.size cols (nz (List.replicate cols 0))):=by have:=Row.of_make hown;exact this
            have HB5:Hid (Below w4.heap.size w4 w5):=qaL hgrn
            have HI0:Hid (RelN4 w4 q cols np (.int .i64 ((0:Nat):Int)) (w5.setCell ⟨w4.heap.size,t,none⟩ (.int .i64 1))):=by
             refine ⟨0,(List.replicate cols 0).set t 1,by omega,rfl,?_,by simp,?_,HB5.out.setCell (p:=⟨w4.heap.size,t,none⟩) (Nat.le_refl _) _⟩
             . have := HR5.out.set t 1
               rw [show (1:Int)=((1:Nat):Int) from rfl,qbX] at this
               exact this
             . intro x hx
               rcases List.mem_or_eq_of_mem_set hx with h | h
               . rw [List.mem_replicate] at h
                 omega
               . omega
            clear hown hgrn HR5 HB5
            generalize w5.setCell ⟨w4.heap.size,t,none⟩ (.int .i64 1)=W6 at *
            clear r0 rf y0
            go_loopw [15] (fun v15 wr=>RelN4 w4 q cols np v15 wr) (fun v15 _=>np-(intOf v15).toNat)
            case atStart=>exact HI0.out
            case round =>
             obtain ⟨i,l,hi,rfl,hrow,hll,hlq,hb⟩:=hrel
             have HR6:=Lib.hid hrow
             have HB6:=Lib.hid hb
             have HLQ:=Lib.hid hlq
             have hwr6:=hb.size
             clear hrow hb hlq HI0
             have HBW:=Lib.hid (HB.out.trans (HB6.out.mono hwr))
             by_cases hil:i<np
             . obtain ⟨bp,op,rfl,hbp,hcp⟩ := (HIA3.out.keep HBW.out).at_ (k := i) (by rw [qaB,hnp];exact hil)
               rw [qaF] at hcp
               obtain ⟨br,or',Ai,ci,e,hbr,hcr,hri⟩:=(HRA3.out.keep HBW.out).at_ (i:=i) (by rw [qbC,hcl];exact hil)
               subst e
               rw [qcM] at hcr hri
               have hg:=HCG.out.row (i:=i) (by rw [hcl];exact hil)
               rw [qaB,hg.1] at hcr
               obtain ⟨bx,ox,rfl,hbx,hcx⟩:=hri.at_ (k:=t) (by rw [qaB,hg.1];exact hlt3)
               rw [qaF] at hcx
               have hxq:(cr.getD i []).getD t 0<q:=by
                have:∀ (l:List Nat) (hj:t<l.length),l.getD t 0=l[t]:=fun l hj=>by simp [List.getD,hj]
                rw [this _ (by rw [hg.1];exact hlt3)]
                exact hg.2 _ (List.getElem_mem _)
               have hpv:=HPL.out i hil
               have hnq:=(HE.out.neg _ hxq).2
               have HNG:Hid (∀ W,Calls Tryz.prog 150 #[.agg #[.int .i64 p,.int .i64 m,.slice A n cA],.int .i64 (((cr.getD i []).getD t 0:Nat):Int)] W fun e w'=>e=.returned (.int .i64 ((O.neg ((cr.getD i []).getD t 0):Nat):Int))/\Below W.heap.size W w'):=fun W=>HNEG.out _ W hxq
               have i0':(0:Int)<=(i:Int):=by omega
               have i1':(i:Int)<(np:Int):=by omega
               have i2':(i:Int)<(cr.length:Int):=by omega
               clear hri hg hxq
               generalize O.neg ((cr.getD i []).getD t 0)=y at *
               generalize (cr.getD i []).getD t 0=x at *
               generalize piv.getD i 0=pv at *
               have p0:(0:Int)<=(pv:Int):=by omega
               have p1:(pv:Int)<(cols:Int):=by omega
               have hw1:IntKind.i64.wrap ((i:Int)+1)=(i:Int)+1:=IntWalk.i64_in _ (by omega)
               have HS:Hid (NSc w [.int .i64 (p:Int),.int .i64 (m:Int),.slice A n cA] bp op br or' bx ox i t cols ci pv x wr.drew):=⟨(HX3.out.grow HBW.out).grow (Below.refl _ _).drew,hcp,hcr,hcx⟩
               have HR7:=Lib.hid (HR6.out.below (Below.refl _ wr).drew HR6.out.lt.2)
               have HB7:=Lib.hid (HB6.out.drew)
               clear HR6 HB6 HBW HNEG HE HCN HGC HCL hcp hcr hcx
               go_upto_region 21 with fail
               refine qaX 14 14 (NSc w [.int .i64 (p:Int),.int .i64 (m:Int),.slice A n cA] bp op br or' bx ox i t cols ci pv x) [(1,0),(1,1),(1,2),(1,3),(0,4),(0,5),(1,6),(1,7),(1,8),(0,9),(1,10),(1,11),(0,12),(2,13)] default (by kernel_rfl) (by kernel_rfl) (fun _ _ d _ _ h=>by cases d <;> exact h) HS.out ?_
               generalize wr.drew=Wd at *
               simp only [List.map_cons,List.map_nil,List.getD_cons_zero,List.getD_cons_succ]
               iterate 4
                apply qaR rfl
                . intro W
                  go_simp
                  rfl
                go_simp
               apply qaZ rfl
               . intro W hW
                 have z0:=hW.2.1
                 go_simp
                 rfl
               go_simp
               refine qbV rfl 29 (.tmp 3) rfl w.heap.size 0 rfl [.int .i64 (p:Int),.int .i64 (m:Int),.slice A n cA] _ (fun W hW=>hW.1.range) Tryz.underlying29 rfl fieldSize ?_
               go_simp
               iterate 3
                apply qaR rfl
                . intro W
                  go_simp
                  rfl
                go_simp
               apply qaZ rfl
               . intro W hW
                 have z0:=hW.2.2.1
                 go_simp
                 rfl
               go_simp
               iterate 2
                apply qaR rfl
                . intro W
                  go_simp
                  rfl
                go_simp
               apply qaZ rfl
               . intro W hW
                 have z0:=hW.2.2.2
                 go_simp
                 rfl
               go_simp
               apply qcF rfl
               . go_simp
                 exact ⟨rfl,rfl⟩
               with_reducible refine (HNG.out Wd).mono ?_
               rintro e w7 ⟨rfl,hb7⟩
               have HS7:=Lib.hid (HS.out.keep hb7)
               have HR8:=Lib.hid (HR7.out.below hb7 HR7.out.lt.2)
               have HB8:=Lib.hid (HB7.out.trans (hb7.mono HB7.out.size))
               refine ⟨_,rfl,HS7.out,?_⟩
               go_simp
               refine qbZ ?_
               show wpList _ _ _ _ _ _
               go_simp
               have f0:=HR8.out.frozen pv
               have y0:=HR8.out.cell (j:=pv) (by rw [qaB];omega)
               have HR9:=Lib.hid (HR8.out.set pv (y:Int))
               rw [qbX] at HR9
               have HB9:=Lib.hid (HB8.out.setCell (p:=⟨w4.heap.size,pv,none⟩) (Nat.le_refl _) (.int .i64 (y:Int)))
               have HQ9:Hid (∀ z∈l.set pv y,z<q):=fun z hz=>(List.mem_or_eq_of_mem_set hz).elim (HLQ.out z) (fun h=>h ▸ hnq)
               clear hb7 HS HR7 HB7 HNG HR8 HB8 HS7
               go_wp2_with fail
               go_roundw
               case rel=>exact ⟨i+1,l.set pv y,by omega,by go_num,HR9.out,by rw [List.length_set];exact hll,HQ9.out,HB9.out⟩
               case measure=>simp [intOf];omega
             . have i1' : ¬ (i : Int) < (np : Int) := by omega
               have HRX:Hid (RowsOk q cols (R++[l])):=fun r hr=>by
                rcases List.mem_append.1 hr with h | h
                . exact HRO.out r h
                . rw [List.mem_singleton] at h
                  subst h
                  exact ⟨hll,HLQ.out⟩
               have hgx:(R++[l]).getD R.length []=l:=qbB R l []
               have HLW:=Lib.hid (HLG.out.wide l)
               have HOW:Hid ((wr.alloc (.cells #[.slice (some ⟨w4.heap.size,0,none⟩) cols cols] 23)).ownsRow w3.heap.size 23 1 (.slice VO R.length co) R.length ((List.range R.length).map (hdr (R++[l]) bs))):=by
                have hko:=(HLW.out.grow HB6.out).out
                exact World.ownsRow.alloc hko _
               have hbw2:=HBW.out.size
               have HRR:Hid (Row wr w4.heap.size w4.heap.size cols (nz ((R++[l]).getD R.length []))):=by
                show Row _ _ _ _ _
                rw [hgx]
                exact HR6.out
               have hRl:R.length<256:=by omega
               clear HR6
               go_wp2_with (at_builtin;refine wpList_append_own_at _ rfl (.tmp 82) (.tmp 84) 30 rfl w3.heap.size 23 i00 _ 1 24 Tryz.underlying30 HI'.out HZ0'.out HZ1'.out HZ2'.out rfl (by decide) (.slice VO R.length co) R.length ((List.range R.length).map (hdr (R++[l]) bs)) rfl HOW.out ⟨wr.heap.size,0,none⟩ 1 1 [.slice (some ⟨w4.heap.size,0,none⟩) cols cols] rfl rfl ?c1 ?c2 ?c3 ?c4 ?c5 ?_)
               try case c1=>exact World.news_of_block (cs:=#[.slice (some ⟨w4.heap.size,0,none⟩) cols cols]) (t:=23) (fr:=(0,0)) (heap_alloc_new wr _)
               case c2=>first | rfl | (intro u hu;simp at hu;subst hu;rfl)
               case c3=>unfold maxLen;omega
               case c4=>omega
               case c5=>first | omega | (simp;omega) | assumption
               intro v' w7 hown' hgw _ hat
               have HX7:Hid (LGrid w7 w3.heap.size v' (R++[l]) (bs++[(w4.heap.size,cols)]) (R.length+1)):=HLW.out.step (by simp) hwr HB6.out HRR.out (by rw [hgx,hll];exact hown') hgw (by simpa using hat)
               have HB7:Hid (Below w3.heap.size w3 w7):=(HBW.out.alloc (by omega) _).grown hgw (by simp;omega) (fun j hj=>(HLG.out.out.lt j hj).1)
               clear hown' hgw hat HOW
               go_wp2_with fail
               go_roundw
               case rel=>exact ⟨t+1,R++[l],bs++[(w4.heap.size,cols)],by omega,by go_num,by rw [List.length_append];exact HX7.out,by rw [List.length_append];simp;omega,HRX.out,HB7.out⟩
               case measure=>simp [intOf];omega
        . obtain rfl : t = cols := by omega
          have hRl:R.length<=256:=by omega
          have HLK:Hid (RowsAt w4 w4.heap.size VO (nzs R)):=HLG.out.up.rowsAt
          have HGD:Hid (Grid q R.length t R):=⟨rfl,HRO.out⟩
          have HX4:=Lib.hid (HX3.out.grow HB.out)
          have HCB:=Lib.hid (HCN.out R VO co w4 HX4.out.below HGD.out HLK.out hRl)
          have HG9:=Lib.hid (HGC.out R HGD.out)
          obtain ⟨hc9,hp9⟩:=HCL.out R
          have hlen9:(canonM O R t).length<=256:=by omega
          have HE9:Hid ((elGo O R t).piv.length=(canonM O R t).length):=by show _=_;omega
          have HRG:=Lib.hid HX4.out.range
          clear HLK HLG HGD HCN HGC HCL HX3
          generalize (elGo O R t).piv=piv9 at *
          generalize canonM O R t=cr9 at *
          go_wp2_with (refine wpList_load_mid rfl 29 (.tmp 3) rfl w.heap.size 0 rfl [.int .i64 (p:Int),.int .i64 (m:Int),.slice A n cA] _ HRG.out Tryz.underlying29 rfl fieldSize ?_)
          (with_reducible refine HCB.out.mono ?_)
          rintro e w8 ⟨⟨A9,ck9,VA9,c9,rfl,hra9,_⟩,hb8⟩
          have HX8:=Lib.hid (HX4.out.grow hb8)
          have HRA9:=Lib.hid hra9.rowsAt
          clear hb8 hra9 HCB
          go_wp2_with fail
          go_ret
          exact ⟨⟨A9,cr9,ck9,by rw [<- HE9.out];rfl,HRA9.out,HG9.out,hlen9⟩,HX8.out.below⟩
end Go.Proofs.YtlmglaonldlanaaGreat
