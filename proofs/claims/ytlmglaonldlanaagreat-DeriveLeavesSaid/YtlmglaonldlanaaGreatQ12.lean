/-
 matrix.eliminate.
-/
import Derived.Deep.CutBlock
import Derived.Deep.DeepCutAuto
import Derived.Test.YtlmglaonldlanaaGreatQ11
namespace Go.Proofs.YtlmglaonldlanaaGreat
open Go.RowKit Pln
def RelE (w:World) (B R cR gb Bg p m:Nat) (l:List Nat) (rows:List (List Nat)) (cols g:Nat) (v10 v12 v13:Value) (wr:World):Prop :=
 ∃ (c d:Nat) (bs:List (Nat × Nat)) (VA:Option Addr) (Vk:Nat),c+g=cols/\v13=.int .i64 c/\v10=.int .i64 d/\d<p ^ m/\v12=.slice VA (elGo (opsT p m l) rows c).piv.length Vk/\PivAt wr (w.heap.size+3) (.slice VA (elGo (opsT p m l) rows c).piv.length Vk) (elGo (opsT p m l) rows c).piv rows.length bs/\EI w B R cR gb Bg p m l (elGo (opsT p m l) rows c).rows bs wr
def ElPost (w:World) (B R cR p m:Nat) (l:List Nat) (rows:List (List Nat)) (cols:Nat) (e:Ending) (w':World):Prop :=
 (∃ (vp:Value) (d:Nat) (bs:List (Nat × Nat)),e=.returned (.tuple #[vp,.int .i64 d])/\w'.ownsRow (w.heap.size+3) 3 1 vp (elGo (opsT p m l) rows cols).piv.length ((nz (elGo (opsT p m l) rows cols).piv).map (Value.int .i64))/\GridAt w' B R cR (elGo (opsT p m l) rows cols).rows bs)/\Below B w w'
def RelK (w:World) (B R cR gb Bg p m:Nat) (l:List Nat) (rows:List (List Nat)) (bs:List (Nat × Nat)) (v12:Value) (piv:List Nat) (ba bkk t _c:Nat) (K:Nat->Prop) (wr:World):Prop :=
 ∃ k:Nat,t<=k/\k<=rows.length/\K k/\wr.heap[ba]?=some (.cells #[.int .i64 t] 3 (0,0))/\wr.heap[bkk]?=some (.cells #[.int .i64 k] 3 (0,0))/\EI w B R cR gb Bg p m l rows bs wr/\PivAt wr (w.heap.size+3) v12 piv rows.length bs
set_option maxHeartbeats 2000000 in
set_option maxRecDepth 100000 in
theorem eliminate_c (B R cR gb Bg p m cols:Nat) (md l:List Nat) (rows:List (List Nat)) (bs:List (Nat × Nat)) (w:World) (hF:FT p m md l) (hG:GFAt w Bg gb p m l (logL l (p ^ m))) (hBg:Bg<=B) (hB:B<=w.heap.size) (hD:GridAt w B R cR rows bs)
 (hgr:Grid (p ^ m) rows.length cols rows) (hn:rows.length<=256) (hc:cols<=256) :
 Calls Tryz.prog 232 #[.pointer (some ⟨gb,0,none⟩),.slice (some ⟨R,0,none⟩) rows.length cR,.int .i64 cols,.slice none 0 0] w (ElPost w B R cR p m l rows cols):=by
 have hq1:=(qaU (p:=p) (m:=m) (by have:=hF.small.p1;omega) hF.small.m1 md).q1
 have hb0:Below w.heap.size w (((w.alloc (.cells #[.pointer (some ⟨gb,0,none⟩)] 100)).alloc (.cells #[.slice (some ⟨R,0,none⟩) rows.length cR] 30)).alloc (.cells #[.slice none 0 0] 30)):=(((Below.refl _ _).alloc (Nat.le_refl _) _).alloc (by simp) _).alloc (by simp;omega) _
 have HE0:Hid (EI w B R cR gb Bg p m l rows bs (((w.alloc (.cells #[.pointer (some ⟨gb,0,none⟩)] 100)).alloc (.cells #[.slice (some ⟨R,0,none⟩) rows.length cR] 30)).alloc (.cells #[.slice none 0 0] 30))):=by
  refine ⟨hD.grow hb0,hG.keep (hb0.mono (by omega)),?_,?_,?_,hb0.mono hB,by simp,hD.lt.2,fun i hi=>.inl (hD.row i hi).lt.2⟩
  . rw [World.cell?_alloc_lt _ _ _ (by simp;omega),World.cell?_alloc_lt _ _ _ (by simp)]
    exact World.cell?_alloc_new _ _ _ 0
  . rw [World.cell?_alloc_lt _ _ _ (by simp)]
    simp
  . have := World.cell?_alloc_new ((w.alloc (.cells #[.pointer (some ⟨gb,0,none⟩)] 100)).alloc (.cells #[.slice (some ⟨R,0,none⟩) rows.length cR] 30)) #[.slice none 0 0] 30 0
    simpa using this
 obtain ⟨i00,hi,hz0,hz1,hz2⟩:=qaG infoInt
 have HI:=Lib.hid hi
 have HZ0:=Lib.hid hz0
 have HZ1:=Lib.hid hz1
 have HZ2:=Lib.hid hz2
 clear hi hz0 hz1 hz2
 have HF:=Lib.hid hF
 have HGR:=Lib.hid hgr
 clear hb0 hF hG hD hgr
 have hmf:∀ (fn:Fn) (first cap:Array Value) (w:World),(Instr.makeFunc fn first cap).run Tryz.prog w=.ok (.func fn first cap) w:=fun _ _ _ _=>rfl
 go_enter Tryz.func232,Tryz.ntmps232
 go_wp2_with fail
 generalize ((w.alloc (.cells #[.pointer (some ⟨gb,0,none⟩)] 100)).alloc (.cells #[.slice (some ⟨R,0,none⟩) rows.length cR] 30)).alloc (.cells #[.slice none 0 0] 30)=W0 at *
 go_loopg [10,12,13] cols (fun g v10 v12 v13 wr=>RelE w B R cR gb Bg p m l rows cols g v10 v12 v13 wr)
 case atStart=>exact ⟨0,1,bs,none,0,by omega,rfl,rfl,hq1,rfl,⟨World.ownsRow_nil _ _ _ _,fun _ _=>by simp [Value.ownBlock]⟩,HE0.out⟩
 case round =>
  obtain ⟨c,d,bs',VA,Vk,hcg,rfl,rfl,hd,rfl,hpiv,hei⟩:=hrel
  have HPIV:=Lib.hid hpiv
  have HEI:=Lib.hid hei
  have hrl:=qcW (O:=opsT p m l) rows c
  have hpl:=qbW (O:=opsT p m l) rows c
  have HRL:=Lib.hid hrl
  have y5:wr.cell? ⟨w.heap.size+1,0,none⟩=some (.slice (some ⟨R,0,none⟩) rows.length cR):=by rw [<- hrl];exact hei.b5
  have HSTEP:Hid (elGo (opsT p m l) rows (c+1)=elStep (opsT p m l) c (elGo (opsT p m l) rows c)):=rfl
  have HFULL:Hid ((elGo (opsT p m l) rows c).piv.length=rows.length->elGo (opsT p m l) rows cols=elGo (opsT p m l) rows c):=fun h=>by
   have:=elGo_full rows h (cols-c)
   rw [show c+(cols-c)=cols by omega] at this
   exact this
  have HGC:Hid (Grid (p ^ m) rows.length cols (elGo (opsT p m l) rows c).rows):=(qfR (qeA HF.out) HGR.out c (by omega)).2
  clear hpiv hei hrl HE0
  generalize hse:elGo (opsT p m l) rows c=s at *
  by_cases hlt:c<cols
  . by_cases hpn : s.piv.length < rows.length
    . have hb1 : Below wr.heap.size wr ((wr.alloc (.cells #[.int .i64 (s.piv.length : Int)] 3)).alloc (.cells #[.int .i64 (s.piv.length : Int)] 3)) := ((Below.refl _ _).alloc (Nat.le_refl _) _).alloc (by simp) _
      have HK0:Hid (RelK w B R cR gb Bg p m l s.rows bs' (.slice VA s.piv.length Vk) s.piv wr.heap.size (wr.heap.size+1) s.piv.length c (fun k=>k=s.piv.length) ((wr.alloc (.cells #[.int .i64 (s.piv.length:Int)] 3)).alloc (.cells #[.int .i64 (s.piv.length:Int)] 3))):=by
       refine ⟨s.piv.length,Nat.le_refl _,by rw [HRL.out];omega,rfl,?_,?_,HEI.out.grow hB hBg hb1,by rw [HRL.out];exact HPIV.out.grow hb1⟩
       . exact (Below.heap_alloc _ _ _ (by simp)).trans (heap_alloc_new _ _)
       . have := heap_alloc_new (wr.alloc (.cells #[.int .i64 (s.piv.length : Int)] 3)) (.cells #[.int .i64 (s.piv.length : Int)] 3)
         simpa using this
      have hbas:w.heap.size+3<=wr.heap.size:=HEI.out.size
      have HAP:Hid (∀ i,i<s.rows.length->bk bs' i≠wr.heap.size/\bk bs' i≠wr.heap.size+1):=fun i hi=>by have:=(HEI.out.grid.row i hi).lt.2;omega
      have HPB:Hid ((Value.slice VA s.piv.length Vk).ownBlock≠some (wr.heap.size+1)):=fun e=>by have:=(HPIV.out.1.lt _ e).2;omega
      clear hb1
      go_upto_block 2 with fail
      go_cut [36] (fun _ wx=>RelK w B R cR gb Bg p m l s.rows bs' (.slice VA s.piv.length Vk) s.piv wr.heap.size (wr.heap.size+1) s.piv.length c (fun k=>k=findRow s.rows c (s.rows.length-s.piv.length) s.piv.length) wx)
      case first =>
       generalize (wr.alloc (.cells #[.int .i64 (s.piv.length:Int)] 3)).alloc (.cells #[.int .i64 (s.piv.length:Int)] 3)=W1 at *
       generalize wr.heap.size=ba at *
       clear HEI HPIV y5 HSTEP HFULL
       clear wr
       go_wp2_with fail
       go_loopg [36] (s.rows.length-s.piv.length) (fun g _ wx=>RelK w B R cR gb Bg p m l s.rows bs' (.slice VA s.piv.length Vk) s.piv ba (ba+1) s.piv.length c (fun k=>k+g=s.rows.length/\findRow s.rows c (s.rows.length-s.piv.length) s.piv.length=findRow s.rows c (s.rows.length-k) k) wx)
       case atStart =>
        obtain ⟨k,h1,h2,rfl,h4⟩:=HK0.out
        exact ⟨_,h1,h2,⟨by omega,rfl⟩,h4⟩
       case round =>
        obtain ⟨k,htk,hkn,⟨hkg,hf⟩,hba,hbk,hei,hpiv⟩:=hrel
        have HFD:=Lib.hid hf
        have HBA:=Lib.hid hba
        have HBK:=Lib.hid hbk
        have HEI:=Lib.hid hei
        have HPI:=Lib.hid hpiv
        have k15:wr.cell? ⟨ba+1,0,none⟩=some (.int .i64 k):=cell_of_row _ _ 0 _ _ _ hbk
        have k5:wr.cell? ⟨w.heap.size+1,0,none⟩=some (.slice (some ⟨R,0,none⟩) s.rows.length cR):=hei.b5
        have fk:wr.frozen? ⟨ba+1,0,none⟩=false:=by simp [World.frozen?,hbk]
        clear hf hba hbk hei hpiv HK0
        by_cases hkl:k<s.rows.length
        . have hrow := HEI.out.grid.row k hkl
          obtain ⟨hrl1,hrl2⟩:=HGC.out.row (i:=k) (by rw [<- HRL.out];exact hkl)
          have g1:=HEI.out.grid.cell hkl
          rw [hrl1] at g1
          have g2:wr.cell? ⟨bk bs' k,c,none⟩=some (.int .i64 ((at2 s.rows k c:Nat):Int)):=by
           have:=hrow.cell (j:=c) (by rw [qaB,hrl1];exact hlt)
           rw [qaF] at this
           exact this
          have HFN:Hid (findRow s.rows c (s.rows.length-k) k=if at2 s.rows k c=0 then findRow s.rows c (s.rows.length-(k+1)) (k+1) else k):=by
           show _=_
           rw [show s.rows.length-k=(s.rows.length-(k+1))+1 by omega]
           rfl
          have c0:(0:Int)<=(c:Int):=by omega
          have c1:(c:Int)<(cols:Int):=by omega
          have k0:(0:Int)<=(k:Int):=by omega
          have k1:(k:Int)<(s.rows.length:Int):=by omega
          have hsl:s.rows.length<=256:=by rw [HRL.out];exact hn
          clear hrow hrl1 hrl2
          by_cases hz:at2 s.rows k c=0
          . rw [if_pos hz] at HFN
            rw [hz] at g2
            clear hz
            go_wp2_with fail
            go_roundg (s.rows.length-(k+1))
            case measure=>omega
            case rel =>
             refine ⟨k+1,by omega,by omega,⟨by omega,by rw [HFD.out,HFN.out]⟩,?_,?_,HEI.out.wrote hB hBg (by omega) (fun i hi=>(HAP.out i hi).2) _,?_⟩
             . exact (Below.heap_setCell wr ⟨ba+1,0,none⟩ _ ba (by show ba≠ba+1;omega)).trans HBA.out
             . simp [World.setCell,Array.getElem?_modify,HBK.out]
             . exact HPI.out.grown (qbQ wr ⟨ba+1,0,none⟩ _) HPB.out HPI.out.2
          . rw [if_neg hz] at HFN
            have hzb:(((at2 s.rows k c:Nat):Int)==0)=false:=by simpa using hz
            go_wp2_with fail
            go_meet
            exact ⟨k,htk,hkn,by rw [HFD.out,HFN.out],HBA.out,HBK.out,HEI.out,HPI.out⟩
        . obtain rfl : k = s.rows.length := by omega
          go_wp2_with fail
          go_meet
          exact ⟨_,htk,hkn,by rw [HFD.out,Nat.sub_self];rfl,HBA.out,HBK.out,HEI.out,HPI.out⟩
      case rest =>
       obtain ⟨k,htk,hkn,hkf,hba,hbk,hei,hpiv⟩:=hcut
       have HKF:=Lib.hid hkf
       have HBA:=Lib.hid hba
       have HBK:=Lib.hid hbk
       have HEC:=Lib.hid hei
       have HPC:=Lib.hid hpiv
       have k15:wc.cell? ⟨wr.heap.size+1,0,none⟩=some (.int .i64 k):=cell_of_row _ _ 0 _ _ _ hbk
       have k14:wc.cell? ⟨wr.heap.size,0,none⟩=some (.int .i64 (s.piv.length:Int)):=cell_of_row _ _ 0 _ _ _ hba
       have k5:wc.cell? ⟨w.heap.size+1,0,none⟩=some (.slice (some ⟨R,0,none⟩) s.rows.length cR):=hei.b5
       clear hkf hba hbk hei hpiv HK0 y5
       by_cases hke:k=s.rows.length
       . have HS1 : Hid (elGo (opsT p m l) rows (c + 1) = s) := by
          show _=_
          rw [HSTEP.out]
          unfold elStep
          rw [if_pos (by rw [HRL.out];exact hpn),if_pos (by rw [<- HKF.out];exact hke)]
         have hkb:((k:Int)==(s.rows.length:Int))=true:=by simp;omega
         clear hke
         go_wp2_with fail
         go_roundg (cols-(c+1))
         case measure=>omega
         case rel=>exact ⟨c+1,d,bs',VA,Vk,by omega,by go_num,rfl,hd,by rw [HS1.out],by rw [HS1.out,<- HRL.out];exact HPC.out,by rw [HS1.out];exact HEC.out⟩
       . have hkb : ((k : Int) == (s.rows.length : Int)) = false := by simp;omega
         have hk2:k<s.rows.length:=by omega
         have hsl:s.rows.length<=256:=by rw [HRL.out];exact hn
         have hpn2:s.piv.length<s.rows.length:=by rw [HRL.out];exact hpn
         have hGC:Grid (p ^ m) s.rows.length cols s.rows:=by rw [HRL.out];exact HGC.out
         obtain ⟨g1,e1,g2,g3,hel⟩:=col_facts HF.out hGC hpn2 hlt HKF.out hk2
         have HT0:Hid (St w B R cR gb Bg p m l s.rows s.rows.length (.slice VA s.piv.length Vk) s.piv wr.heap.size s.piv.length wc):=⟨bs',HBA.out,HEC.out,HPC.out,fun i hi=>(HAP.out i hi).1,rfl,hbas⟩
         have hRlt:R<w.heap.size:=HEC.out.out
         have G1:=Lib.hid g1
         have E1:=Lib.hid e1
         have G2:=Lib.hid g2
         have G3:=Lib.hid g3
         have HEL:=Lib.hid (HSTEP.out.trans hel)
         have HE2a:Hid (at2 (swapRows s.rows s.piv.length k) s.piv.length c=1->normRow (opsT p m l) (swapRows s.rows s.piv.length k) s.piv.length c=swapRows s.rows s.piv.length k):=fun h=>by unfold normRow;rw [if_pos h]
         have HE2b:Hid (at2 (swapRows s.rows s.piv.length k) s.piv.length c≠1->normRow (opsT p m l) (swapRows s.rows s.piv.length k) s.piv.length c=(swapRows s.rows s.piv.length k).set s.piv.length (scaleRow (opsT p m l) ((opsT p m l).inv (at2 (swapRows s.rows s.piv.length k) s.piv.length c)) ((swapRows s.rows s.piv.length k).getD s.piv.length []))):=fun h=>by unfold normRow;rw [if_neg h]
         have HSW:Hid (k=s.piv.length->swapRows s.rows s.piv.length k=s.rows):=fun e=>by rw [e];exact swap_self _ _ hpn2
         have HC2:=Lib.hid (fun e:s.piv.length≠k=>swap_st HT0.out hB hBg hpn2 hk2 e hsl k15 (by omega))
         clear g1 e1 g2 g3 hel hGC HSTEP HFULL HPIV HEI HAP HPB HGC HKF HBA HBK HEC HPC
         generalize normRow (opsT p m l) (swapRows s.rows s.piv.length k) s.piv.length c=rows2 at *
         generalize swapRows s.rows s.piv.length k=rows1 at *
         go_upto_if 58 with fail
         go_cut [10] (fun v10 wx=>RelD w B R cR gb Bg p m l rows1 s.rows.length (.slice VA s.piv.length Vk) s.piv wr.heap.size s.piv.length v10 wx)
         case first =>
          by_cases hkt:k=s.piv.length
          . have hkb2 : ((k : Int) != (s.piv.length : Int)) = false := by simp;omega
            have HX:Hid (RelD w B R cR gb Bg p m l rows1 s.rows.length (.slice VA s.piv.length Vk) s.piv wr.heap.size s.piv.length (.int .i64 d) wc):=⟨d,rfl,hd,by rw [HSW.out hkt];exact HT0.out⟩
            clear hkt
            go_wp2_with fail
            go_meet
            exact HX.out
          . have hkb2 : ((k : Int) != (s.piv.length : Int)) = true := by simp;omega
            have HC:=Lib.hid (HC2.out (fun e=>hkt e.symm))
            clear hkt HSW HC2
            go_wp2_with fail
            (with_reducible refine HC.out.mono ?_)
            rintro e w1 ⟨rfl,hst⟩
            have HST:=Lib.hid hst
            have h4:=hst.b4
            clear hst k15 k14
            go_wp2_with fail
            (with_reducible refine (neg_c d gb p m Bg l _ w1 HF.out.small HST.out.field hd).mono ?_)
            rintro e w2 ⟨rfl,nn,rfl⟩
            have HX:Hid (RelD w B R cR gb Bg p m l rows1 s.rows.length (.slice VA s.piv.length Vk) s.piv wr.heap.size s.piv.length (.int .i64 ((negD p m d:Nat):Int)) (w1.drewN nn)):=⟨_,rfl,qfN (by have:=HF.out.small.p1;omega) m d,HST.out.grow hB hBg (qaA (Below.refl _ _) nn)⟩
            go_wp2_with fail
            go_meet
            exact HX.out
         case rest =>
          obtain ⟨d1,rfl,hd1,hst⟩:=hcut
          have HST:=Lib.hid hst
          clear hst k5 k14 k15 HT0 HSW HC2 hd
          have q4:=HST.out.b4
          have q5:=HST.out.b5
          have q14:=HST.out.box
          obtain ⟨b1,cc1,g1c,g2c⟩:=HST.out.at_ G1.out hpn2 hlt
          have hx:=G1.out.at_ hpn2 hlt
          generalize hxe:at2 rows1 s.piv.length c=x at *
          have HXE:=Lib.hid hxe
          clear hxe
          obtain ⟨hiv,hiv1⟩:=inv_one HF.out hx E1.out
          have HIV1:=Lib.hid hiv1
          have HMUL:Hid (∀ W,SDrew wc W->Calls Tryz.prog 142 #[.pointer (some ⟨gb,0,none⟩),.int .i64 (d1:Int),.int .i64 (x:Int)] W fun e w'=>e=.returned (.int .i64 (((opsT p m l).mul d1 x:Nat):Int))/\SDrew wc w'):=fun W ⟨n,hW⟩=>by
           subst hW
           refine (mul_c d1 x gb p m Bg md l _ HF.out (HST.out.field.keep (qaA (Below.refl _ _) n)) hd1 hx).mono ?_
           rintro e w' ⟨he,k,rfl⟩
           exact ⟨he,n+k,by rw [World.drewN_drewN]⟩
          have HINV:Hid (∀ W,SDrew wc W->Calls Tryz.prog 101 #[.pointer (some ⟨gb,0,none⟩),.int .i64 (x:Int)] W fun e w'=>e=.returned (.tuple #[.int .i64 (((opsT p m l).inv x:Nat):Int),.int .i64 0])/\SDrew wc w'):=fun W ⟨n,hW⟩=>by
           subst hW
           refine (inv_c x gb p m Bg md l _ HF.out (HST.out.field.keep (qaA (Below.refl _ _) n)) hx E1.out).mono ?_
           rintro e w' ⟨he,k,rfl⟩
           exact ⟨he,n+k,by rw [World.drewN_drewN]⟩
          have HD2:Hid ((opsT p m l).mul d1 x<p ^ m):=qcZ HF.out hd1 hx
          clear hiv1
          generalize (opsT p m l).mul d1 x=d2 at *
          generalize hiv0:(opsT p m l).inv x=iv at *
          have HIVE:Hid (invT l (logL l (p ^ m)) (p ^ m) x=iv):=hiv0
          clear hiv0
          have t0:(0:Int)<=(s.piv.length:Int):=by omega
          have t1:(s.piv.length:Int)<(s.rows.length:Int):=by omega
          have c0:(0:Int)<=(c:Int):=by omega
          have c1:(c:Int)<(cols:Int):=by omega
          go_upto_region 15 with fail
          refine qaH (SDrew wc) (by kernel_rfl) (by kernel_rfl) ⟨1,rfl⟩ ?_
          repeat (first
           | (apply qaM rfl
              . intro W hS
                obtain ⟨n,rfl⟩:=hS
                go_simp
                rfl
              go_simp)
           | (apply qaV rfl
              . intro W hS
                go_simp
                exact ⟨rfl,rfl⟩
              . intro W hS
                exact HMUL.out W hS
              go_simp))
          refine qaJ ?_
          intro w2 hS2
          obtain ⟨n2,rfl⟩:=hS2
          have HSTW:=Lib.hid (HST.out.grow hB hBg (qaA (Below.refl _ _) n2))
          clear g1c g2c q4 q14 q5 HMUL HINV HST
          go_upto_region 16 with fail
          generalize wc.drewN n2=W2 at *
          clear wc
          have q4:=HSTW.out.b4
          have q5:=HSTW.out.b5
          have q14:=HSTW.out.box
          obtain ⟨b1,cc1,g1c,g2c⟩:=HSTW.out.at_ G1.out hpn2 hlt
          rw [HXE.out] at g2c
          have x4:w.heap.size<W2.heap.size:=World.block_lt_of_cell? W2 _ q4
          have x5:w.heap.size+1<W2.heap.size:=World.block_lt_of_cell? W2 _ q5
          have x14:wr.heap.size<W2.heap.size:=World.block_lt_of_cell? W2 _ q14
          have xg1:R<W2.heap.size:=World.block_lt_of_cell? W2 _ g1c
          have xg2:b1<W2.heap.size:=World.block_lt_of_cell? W2 _ g2c
          have HI1:Hid (Calls Tryz.prog 101 #[.pointer (some ⟨gb,0,none⟩),.int .i64 (x:Int)] W2.drew fun e wi=>e=.returned (.tuple #[.int .i64 (iv:Int),.int .i64 0])/\Below W2.heap.size W2 wi):=by
           have:=inv_c x gb p m Bg md l W2.drew HF.out (HSTW.out.field.keep ((Below.refl _ _).drew)) hx E1.out
           rw [<- HIVE.out]
           refine this.mono ?_
           rintro e w' ⟨he,n,rfl⟩
           exact ⟨he,qaA (Below.refl _ _).drew n⟩
          have HI2:Hid (Calls Tryz.prog 101 #[.pointer (some ⟨gb,0,none⟩),.int .i64 (x:Int)] (W2.alloc (.cells #[.int .i64 0] 3)).drew fun e wi=>e=.returned (.tuple #[.int .i64 (iv:Int),.int .i64 0])/\Below W2.heap.size W2 wi/\wi.cell? ⟨W2.heap.size,0,none⟩=some (.int .i64 0)/\wi.frozen? ⟨W2.heap.size,0,none⟩=false):=by
           have:=inv_c x gb p m Bg md l (W2.alloc (.cells #[.int .i64 0] 3)).drew HF.out (HSTW.out.field.keep (((Below.refl Bg W2).alloc (by omega) _).drew)) hx E1.out
           rw [<- HIVE.out]
           refine this.mono ?_
           rintro e w' ⟨he,n,rfl⟩
           exact ⟨he,qaA ((Below.refl _ _).alloc (Nat.le_refl _) _).drew n,World.cell?_alloc_new W2 _ _ 0,(row_lit W2 0 (B:=0) (Nat.zero_le _)).frozen 0⟩
          go_cut [16,17] (fun v16 v17 wx=>RelV w B R cR gb Bg p m l rows1 s.rows.length (.slice VA s.piv.length Vk) s.piv wr.heap.size s.piv.length iv v16 v17 wx)
          case first =>
           go_region_held3 (fun w'=>w'.cell? ⟨w.heap.size,0,none⟩=some (.pointer (some ⟨gb,0,none⟩))/\w'.cell? ⟨w.heap.size+1,0,none⟩=some (.slice (some ⟨R,0,none⟩) s.rows.length cR)/\w'.cell? ⟨wr.heap.size,0,none⟩=some (.int .i64 s.piv.length)/\w'.cell? ⟨R,s.piv.length,none⟩=some (.slice (some ⟨b1,0,none⟩) cols cc1)/\w'.cell? ⟨b1,c,none⟩=some (.int .i64 (x:Int)))
            (first | go_keep | (go_split_ands;exact ⟨(Below.cell (p:=⟨w.heap.size,0,none⟩) hbi x4).trans (by assumption),(Below.cell (p:=⟨w.heap.size+1,0,none⟩) hbi x5).trans (by assumption),(Below.cell (p:=⟨wr.heap.size,0,none⟩) hbi x14).trans (by assumption),(Below.cell (p:=⟨R,s.piv.length,none⟩) hbi xg1).trans (by assumption),(Below.cell (p:=⟨b1,c,none⟩) hbi xg2).trans (by assumption)⟩) | (go_split_ands;exact ⟨(Below.cell (p:=⟨w.heap.size,0,none⟩) (hbi.alloc hbi.size _) x4).trans (by assumption),(Below.cell (p:=⟨w.heap.size+1,0,none⟩) (hbi.alloc hbi.size _) x5).trans (by assumption),(Below.cell (p:=⟨wr.heap.size,0,none⟩) (hbi.alloc hbi.size _) x14).trans (by assumption),(Below.cell (p:=⟨R,s.piv.length,none⟩) (hbi.alloc hbi.size _) xg1).trans (by assumption),(Below.cell (p:=⟨b1,c,none⟩) (hbi.alloc hbi.size _) xg2).trans (by assumption)⟩) | (go_split_ands;exact ⟨(Below.cell (p:=⟨w.heap.size,0,none⟩) (hbi.setCell (p:=⟨W2.heap.size,0,none⟩) (Nat.le_refl _) _) x4).trans (by assumption),(Below.cell (p:=⟨w.heap.size+1,0,none⟩) (hbi.setCell (p:=⟨W2.heap.size,0,none⟩) (Nat.le_refl _) _) x5).trans (by assumption),(Below.cell (p:=⟨wr.heap.size,0,none⟩) (hbi.setCell (p:=⟨W2.heap.size,0,none⟩) (Nat.le_refl _) _) x14).trans (by assumption),(Below.cell (p:=⟨R,s.piv.length,none⟩) (hbi.setCell (p:=⟨W2.heap.size,0,none⟩) (Nat.le_refl _) _) xg1).trans (by assumption),(Below.cell (p:=⟨b1,c,none⟩) (hbi.setCell (p:=⟨W2.heap.size,0,none⟩) (Nat.le_refl _) _) xg2).trans (by assumption)⟩))
            (first | ((with_reducible refine HI1.out.mono ?_);rintro e wi ⟨rfl,hbi⟩) | ((with_reducible refine HI2.out.mono ?_);rintro e wi ⟨rfl,hbi,j1,j2⟩))
           . have HX : Hid (RelV w B R cR gb Bg p m l rows1 s.rows.length (.slice VA s.piv.length Vk) s.piv wr.heap.size s.piv.length iv (.pointer (some ⟨wi.heap.size,0,none⟩)) (.int .i64 0) (wi.alloc (.cells #[.int .i64 (iv : Int)] 3))) :=
              ⟨_,rfl,rfl,World.cell?_alloc_new wi _ _ 0,HSTW.out.grow hB hBg (hbi.alloc hbi.size _)⟩
             go_wp2_with fail
             go_meet
             exact HX.out
           . have HX : Hid (RelV w B R cR gb Bg p m l rows1 s.rows.length (.slice VA s.piv.length Vk) s.piv wr.heap.size s.piv.length iv (.pointer (some ⟨W2.heap.size,0,none⟩)) (.int .i64 0) (wi.setCell ⟨W2.heap.size,0,none⟩ (.int .i64 (iv : Int)))) :=
              ⟨_,rfl,rfl,World.cell?_setCell_same wi _ _ j1,HSTW.out.grow hB hBg (hbi.setCell (p:=⟨W2.heap.size,0,none⟩) (Nat.le_refl _) _)⟩
             go_wp2_with fail
             go_meet
             exact HX.out
          case rest =>
           obtain ⟨bi,rfl,rfl,hbi,hst⟩:=hcut
           have HST:=Lib.hid hst
           have HBI:=Lib.hid hbi
           clear hst q4 q5 q14 g1c g2c x4 x5 x14 xg1 xg2 HI1 HI2 HSTW
           go_upto_if 92 with fail
           go_cut [10] (fun v10 wx=>RelD w B R cR gb Bg p m l rows2 s.rows.length (.slice VA s.piv.length Vk) s.piv wr.heap.size s.piv.length v10 wx)
           case first =>
            by_cases hx1:x=1
            . have hib : ((iv : Int) != 1) = false := by have := HIV1.out.1 hx1;simp;omega
              have HX:Hid (RelD w B R cR gb Bg p m l rows2 s.rows.length (.slice VA s.piv.length Vk) s.piv wr.heap.size s.piv.length (.int .i64 d2) wc):=⟨d2,rfl,HD2.out,by rw [HE2a.out hx1];exact HST.out⟩
              clear hx1
              go_wp2_with fail
              go_meet
              exact HX.out
            . have hib : ((iv : Int) != 1) = true := by have : ¬ iv = 1 := fun h => hx1 (HIV1.out.2 h);simp;omega
              have HC:=Lib.hid (scale_st HST.out hB hBg HF.out G1.out hc hpn2 hsl hiv hbi)
              have HR2:Hid (rows1.set s.piv.length (scaleRow (opsT p m l) iv (rows1.getD s.piv.length []))=rows2):=(HE2b.out hx1).symm
              rw [HR2.out] at HC
              clear hx1 hbi
              go_wp2_with fail
              (with_reducible refine HC.out.mono ?_)
              rintro e w1 ⟨rfl,hst⟩
              have HX:Hid (RelD w B R cR gb Bg p m l rows2 s.rows.length (.slice VA s.piv.length Vk) s.piv wr.heap.size s.piv.length (.int .i64 d2) w1):=⟨d2,rfl,HD2.out,hst⟩
              clear hst
              go_wp2_with fail
              go_meet
              exact HX.out
           case rest =>
            obtain ⟨d3,rfl,hd3,hst⟩:=hcut
            have q5:=hst.b5
            have HL0:Hid (RelCI w B R cR gb Bg p m l c rows2 s.rows.length (.slice VA s.piv.length Vk) s.piv wr.heap.size s.piv.length (.int .i64 ((0:Nat):Int)) wc):=⟨0,Nat.zero_le _,rfl,hst⟩
            clear hst HST HBI hbi HE2a HE2b HIV1 HXE HIVE HD2 hiv hx
            generalize wr.heap.size=ba at *
            clear wr
            go_wp2_with fail
            clear q5
            go_loopw [98] (fun v98 wx=>RelCI w B R cR gb Bg p m l c rows2 s.rows.length (.slice VA s.piv.length Vk) s.piv ba s.piv.length v98 wx) (fun v98 _=>s.rows.length-(intOf v98).toNat)
            case atStart=>exact HL0.out
            case round =>
             obtain ⟨i,hi,rfl,hst⟩:=hrel
             have HST:=Lib.hid hst
             by_cases hlt2:i<s.rows.length
             . have hgi := G3.out i hi
               have HGI:=Lib.hid hgi
               obtain ⟨b1,cc1,g1c,g2c⟩:=hst.at_ hgi hlt2 hlt
               have hx:=hgi.at_ hlt2 hlt
               have q5:=hst.b5
               have x5:w.heap.size+1<wr.heap.size:=World.block_lt_of_cell? wr _ q5
               have xg1:R<wr.heap.size:=World.block_lt_of_cell? wr _ g1c
               have xg2:b1<wr.heap.size:=World.block_lt_of_cell? wr _ g2c
               have HSTAY:Hid (i=s.piv.length\/at2 (clearGo (opsT p m l) c s.piv.length rows2 i) i c=0->clearGo (opsT p m l) c s.piv.length rows2 (i+1)=clearGo (opsT p m l) c s.piv.length rows2 i):=clear_stay
               have HTURN:Hid (i≠s.piv.length->at2 (clearGo (opsT p m l) c s.piv.length rows2 i) i c≠0->clearGo (opsT p m l) c s.piv.length rows2 (i+1)=(clearGo (opsT p m l) c s.piv.length rows2 i).set i (addRow (opsT p m l) ((clearGo (opsT p m l) c s.piv.length rows2 i).getD i []) (negD p m (at2 (clearGo (opsT p m l) c s.piv.length rows2 i) i c)) ((clearGo (opsT p m l) c s.piv.length rows2 i).getD s.piv.length []))):=clear_turn
               generalize at2 (clearGo (opsT p m l) c s.piv.length rows2 i) i c=y at *
               have HSTA:=Lib.hid (hst.grow hB hBg (((Below.refl _ _).alloc (Nat.le_refl _) (.cells #[.int .i64 (i:Int)] 3)).alloc (by simp) (.cells #[.int .i64 (y:Int)] 3)))
               have z18:Hid (((wr.alloc (.cells #[.int .i64 (i:Int)] 3)).alloc (.cells #[.int .i64 (y:Int)] 3)).cell? ⟨wr.heap.size,0,none⟩=some (.int .i64 (i:Int))):=by
                show _=_
                rw [World.cell?_alloc_lt _ _ _ (by simp)]
                exact World.cell?_alloc_new wr _ _ 0
               have z19:Hid (((wr.alloc (.cells #[.int .i64 (i:Int)] 3)).alloc (.cells #[.int .i64 (y:Int)] 3)).cell? ⟨wr.heap.size+1,0,none⟩=some (.int .i64 (y:Int))):=by
                have h:=World.cell?_alloc_new (wr.alloc (.cells #[.int .i64 (i:Int)] 3)) #[.int .i64 (y:Int)] 3 0
                rw [show (wr.alloc (.cells #[.int .i64 (i:Int)] 3)).heap.size=wr.heap.size+1 by simp] at h
                exact h
               clear hst hgi HST HL0
               have i0':(0:Int)<=(i:Int):=by omega
               have i1':(i:Int)<(s.rows.length:Int):=by omega
               go_upto_region 23 with fail
               clear g1c g2c q5
               generalize (wr.alloc (.cells #[.int .i64 (i:Int)] 3)).alloc (.cells #[.int .i64 (y:Int)] 3)=W4 at *
               have y18:=z18.out
               have y19:=z19.out
               have y14:=HSTA.out.box
               by_cases hit:i=s.piv.length
               . have hitb : ((i : Int) != (s.piv.length : Int)) = false := by simp;omega
                 have HS2:=Lib.hid (HSTAY.out (.inl hit))
                 clear hit
                 go_wp2_with fail
                 go_roundw
                 case rel=>exact ⟨i+1,by omega,by go_num,by rw [HS2.out];exact HSTA.out⟩
                 case measure=>simp [intOf];omega
               . have hitb : ((i : Int) != (s.piv.length : Int)) = true := by simp;omega
                 by_cases hy0:y=0
                 . have hyb : ((y : Int) != 0) = false := by simp;omega
                   have HS2:=Lib.hid (HSTAY.out (.inr hy0))
                   clear hy0
                   go_wp2_with fail
                   go_roundw
                   case rel=>exact ⟨i+1,by omega,by go_num,by rw [HS2.out];exact HSTA.out⟩
                   case measure=>simp [intOf];omega
                 . have hyb : ((y : Int) != 0) = true := by simp;omega
                   have HS2:=Lib.hid (HTURN.out hit hy0)
                   have HC:=Lib.hid (clear_st HSTA.out hB hBg HF.out HGI.out hc hpn2 hlt2 hit hsl hx y18 y19)
                   rw [<- HS2.out] at HC
                   clear hit hy0
                   go_wp2_with fail
                   (with_reducible refine HC.out.mono ?_)
                   rintro e w5 ⟨rfl,hst5⟩
                   have HST5:=Lib.hid hst5
                   clear hst5 y18 y19 y14
                   go_wp2_with fail
                   go_roundw
                   case rel=>exact ⟨i+1,by omega,by go_num,HST5.out⟩
                   case measure=>simp [intOf];omega
             . obtain rfl : i = s.rows.length := by omega
               obtain ⟨bs2,hbx,hei,hpv,hap,hln,hba⟩:=hst
               have HEI:=Lib.hid hei
               have HPV:=Lib.hid hpv
               have hes:=hei.size
               have hpl1:=hpl.1
               clear hbx hei hpv hap hba HST HL0
               go_wp2_with (at_builtin;refine wpList_append_own_at _ rfl (.tmp 119) (.tmp 121) 23 rfl (w.heap.size+3) 3 i00 _ 1 8 Tryz.underlying23 HI.out HZ0.out HZ1.out HZ2.out rfl (by decide) (.slice VA s.piv.length Vk) s.piv.length ((nz s.piv).map (Value.int .i64)) rfl (World.ownsRow.alloc HPV.out.1 _) ⟨wr.heap.size,0,none⟩ 1 1 [.int .i64 (c:Int)] rfl rfl ?c1 ?c2 ?c3 ?c4 ?c5 ?_)
               case c1=>exact World.news_of_block (cs:=#[.int .i64 (c:Int)]) (t:=3) (fr:=(0,0)) (heap_alloc_new wr _)
               case c2=>intro u hu;simp at hu;subst hu;rfl
               case c3=>unfold maxLen;omega
               case c4=>omega
               case c5=>simp;omega
               intro v' w3 hown' hgw3 _ hat
               have HX:Hid (∃ (VA':Option Addr) (Vk':Nat),v'=.slice VA' (s.piv++[c]).length Vk'/\PivAt w3 (w.heap.size+3) (.slice VA' (s.piv++[c]).length Vk') (s.piv++[c]) s.rows.length bs2):=by
                have hform:=hown'.form (by omega)
                obtain ⟨g,cap,rfl,_,_⟩:=hform
                have e1:(s.piv++[c]).length=s.piv.length+1:=by simp
                have e2:(nz (s.piv++[c])).map (Value.int .i64)=(nz s.piv).map (Value.int .i64)++[.int .i64 (c:Int)]:=by simp [nz]
                refine ⟨some ⟨g,0,none⟩,cap,by rw [e1],?_,?_⟩
                . rw [e1,e2];exact hown'
                . intro j hj
                  rcases hat with h | h
                  . show (Value.slice (some ⟨g,0,none⟩) (s.piv ++ [c]).length cap).ownBlock ≠ _
                    have:=HPV.out.2 j hj
                    rw [<- h] at this
                    exact this
                  . show (Value.slice (some ⟨g,0,none⟩) (s.piv ++ [c]).length cap).ownBlock ≠ _
                    intro e
                    have e':(Value.slice (some ⟨g,0,none⟩) (s.piv.length+1) cap).ownBlock=some (bk bs2 j):=e
                    rw [h] at e'
                    have:=(HEI.out.grid.row j (by omega)).lt.2
                    simp at e'
                    omega
               have HE3:Hid (EI w B R cR gb Bg p m l (clearGo (opsT p m l) c s.piv.length rows2 s.rows.length) bs2 w3) :=
                (HEI.out.grow hB hBg ((Below.refl _ _).alloc (Nat.le_refl _) (.cells #[.int .i64 (c:Int)] 3))).kept hB hBg hgw3 (fun g e=>(HPV.out.1.lt g e).1) (fun j hj=>HPV.out.2 j (by omega))
               clear hown' hgw3 hat
               obtain ⟨VA',Vk',rfl,hpv3⟩:=HX.out
               have HP3:=Lib.hid hpv3
               clear hpv3 HX
               go_wp2_with fail
               go_roundg (cols-(c+1))
               case measure=>omega
               case rel=>exact ⟨c+1,d3,bs2,VA',Vk',by omega,by go_num,rfl,hd3,by rw [HEL.out],by rw [HEL.out,<- HRL.out];exact HP3.out,by rw [HEL.out];exact HE3.out⟩
    . have HE : Hid (elGo (opsT p m l) rows cols = s) := HFULL.out (by omega)
      go_wp2_with fail
      go_ret2
      exact ⟨⟨_,d,bs',rfl,by rw [HE.out];exact HPIV.out.1,by rw [HE.out];exact HEI.out.grid⟩,HEI.out.below⟩
  . have hce : c = cols := by omega
    have HE:Hid (elGo (opsT p m l) rows cols=s):=by rw [<- hce];exact hse
    go_wp2_with fail
    go_ret2
    exact ⟨⟨_,d,bs',rfl,by rw [HE.out];exact HPIV.out.1,by rw [HE.out];exact HEI.out.grid⟩,HEI.out.below⟩
end Go.Proofs.YtlmglaonldlanaaGreat
