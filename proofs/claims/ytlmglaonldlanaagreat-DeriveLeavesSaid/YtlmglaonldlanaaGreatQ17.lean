/-
 code.Walk's inner function at the first row: both multiples. A step of a derivation in memory. derive.formed at any step.
-/
import Derived.Test.YtlmglaonldlanaaGreatQ16
import Derived.Test.YtlmglaonldlanaaGreatQ09
import Derived.Test.YtlmglaonldlanaaGreatQ15
namespace Go.Proofs.YtlmglaonldlanaaGreat
open Go.RowKit Pln
theorem ft_T:FT 2 1 (mdOf 1 []) lT:=qaW (p:=2) (m:=1) (mod:=[]) (by kernel_rfl)
theorem mul_T:mulT lT (logL lT (2 ^ 1)) (2 ^ 1) 1 1=1:=by kernel_rfl
theorem add_T:addD 2 1 0 1=1:=by kernel_rfl
def mixL (a j:Nat):List Nat:=List.replicate j a++List.replicate (3-j) 0
theorem mixL_len {a j:Nat} (h:j<=3):(mixL a j).length=3:=by unfold mixL;simp;omega
theorem mixL_at {a j:Nat} (h:j<3):(mixL a j).getD j 0=0:=by
 match j,h with
 | 0,_=>rfl
 | 1,_=>rfl
 | 2,_=>rfl
theorem mixL_set {a j:Nat} (h:j<3):(mixL a j).set j a=mixL a (j+1):=by
 match j,h with
 | 0,_=>rfl
 | 1,_=>rfl
 | 2,_=>rfl
theorem mixL_z {j:Nat} (h:j<3):mixL 0 j=mixL 0 (j+1):=by
 match j,h with
 | 0,_=>rfl
 | 1,_=>rfl
 | 2,_=>rfl
def RelFa (l bo Ba Bc By Bg Bf gb G:Nat) (lb:Array Value) (J:Nat->World->Prop) (W:World) (v29:Value) (wr:World):Prop :=
 ∃ a:Nat,a<=2/\v29=.int .i64 a/\WkS l bo Ba Bc By Bg Bf gb G lb a wr/\J a wr/\SameBut l bo Ba W wr
def RelFb (wo:World) (g c a:Nat) (v40:Value) (wr:World):Prop :=
 ∃ j:Nat,j<=3/\v40=.int .i64 j/\Row wr wo.heap.size g c (nz (mixL a j))/\Below wo.heap.size wo wr
set_option maxHeartbeats 4000000 in
set_option maxRecDepth 100000 in
theorem from0_c (l bo Ba Bc By Bg Bf gb G Bz:Nat) (J:Nat->World->Prop) (hJ:∀ j A B,J j A->Below Bz A B->J j B) (hz:Bz<=Ba) (hlz:l<Bz) (hoz:bo<Bz) (hY:RndsOk l bo Bz J)
 (bw cw:Nat) (hfw:Far l bo Ba bw) (W:World) (hS:WkS l bo Ba Bc By Bg Bf gb G #[.pointer (some ⟨Bc,0,none⟩),.pointer (some ⟨Ba,0,none⟩),.pointer (some ⟨By,0,none⟩),.pointer (some ⟨Bg,0,none⟩),.pointer (some ⟨Bf,0,none⟩)] 0 W) (h0:J 0 W) (hA:IntsAt W W.heap.size (some ⟨bw,0,none⟩) (nz (List.replicate 3 0))) :
 Calls Tryz.prog 168 #[.int .i64 0,.slice (some ⟨bw,0,none⟩) 3 cw,.pointer (some ⟨Bc,0,none⟩),.pointer (some ⟨Ba,0,none⟩),.pointer (some ⟨By,0,none⟩),.pointer (some ⟨Bg,0,none⟩),.pointer (some ⟨Bf,0,none⟩)] W (FromOk l bo Ba Bc By Bg Bf gb G #[.pointer (some ⟨Bc,0,none⟩),.pointer (some ⟨Ba,0,none⟩),.pointer (some ⟨By,0,none⟩),.pointer (some ⟨Bg,0,none⟩),.pointer (some ⟨Bf,0,none⟩)] J 2 W):=by
 have HF1:Hid (∀ (k:Nat) (bw ow cw:Nat) (W:World),k<2->Far l bo Ba bw->WkS l bo Ba Bc By Bg Bf gb G #[.pointer (some ⟨Bc,0,none⟩),.pointer (some ⟨Ba,0,none⟩),.pointer (some ⟨By,0,none⟩),.pointer (some ⟨Bg,0,none⟩),.pointer (some ⟨Bf,0,none⟩)] k W->J k W->IntsAt W W.heap.size (some ⟨bw,ow,none⟩) (nz (List.replicate 3 k))->Calls Tryz.prog 168 #[.int .i64 1,.slice (some ⟨bw,ow,none⟩) 3 cw,.pointer (some ⟨Bc,0,none⟩),.pointer (some ⟨Ba,0,none⟩),.pointer (some ⟨By,0,none⟩),.pointer (some ⟨Bg,0,none⟩),.pointer (some ⟨Bf,0,none⟩)] W (FromOk l bo Ba Bc By Bg Bf gb G #[.pointer (some ⟨Bc,0,none⟩),.pointer (some ⟨Ba,0,none⟩),.pointer (some ⟨By,0,none⟩),.pointer (some ⟨Bg,0,none⟩),.pointer (some ⟨Bf,0,none⟩)] J (k+1) W)) :=
  fun k bw ow cw W hk hf hS h0 hA=>from1_c l bo Ba Bc By Bg Bf gb G Bz _ J hJ hz (by omega) (by omega) hY k hk bw ow cw hf W hS h0 hA
 have HS:=Lib.hid hS
 have HJ:=Lib.hid hJ
 have HA:=Lib.hid hA
 have HG:=Lib.hid hS.gf.at_
 have HO:=Lib.hid (gorder_e gb W.heap.size 2 1 lT (logL lT (2 ^ 1)) W HG.out)
 have c4:W.cell? ⟨Bc,4,none⟩=some (.slice (some ⟨G,0,none⟩) 1 1):=HS.out.code 4 _ rfl
 have cg:=HS.out.gee.2
 have HR0:Hid (RelFa l bo Ba Bc By Bg Bf gb G #[.pointer (some ⟨Bc,0,none⟩),.pointer (some ⟨Ba,0,none⟩),.pointer (some ⟨By,0,none⟩),.pointer (some ⟨Bg,0,none⟩),.pointer (some ⟨Bf,0,none⟩)] J W (.int .i64 ((0:Nat):Int)) W):=⟨0,by omega,rfl,hS,h0,.refl⟩
 clear hS hY hJ h0 hA HG
 go_enter Tryz.func168,Tryz.ntmps168
 go_wp2_with fail
 refine HO.out.mono ?_
 rintro e w' ⟨rfl,rfl⟩
 clear HO cg c4 HS
 go_wp2_with fail
 go_loopw [29] (fun v29 wr=>RelFa l bo Ba Bc By Bg Bf gb G #[.pointer (some ⟨Bc,0,none⟩),.pointer (some ⟨Ba,0,none⟩),.pointer (some ⟨By,0,none⟩),.pointer (some ⟨Bg,0,none⟩),.pointer (some ⟨Bf,0,none⟩)] J W v29 wr) (fun v29 _=>2-(intOf v29).toNat)
 case atStart=>exact HR0.out
 case round =>
  obtain ⟨a,ha,rfl,hS,hj,hE⟩:=hrel
  have HS:=Lib.hid hS
  have HJA:=Lib.hid hj
  have HE:=Lib.hid hE
  clear hS hj hE HR0
  by_cases hlt:a<2
  . have a0 : (0 : Int) <= (a : Int) := by omega
    have a1:(a:Int)<2:=by omega
    have hwa:IntKind.i64.wrap ((a:Int)+1)=(a:Int)+1:=IntWalk.i64_in _ (by omega)
    have HLEN:Hid ((nz (List.replicate 3 0)).length=3):=by show _=_;rw [qaB,List.length_replicate]
    have HC:=Lib.hid (sclone_c (nz (List.replicate 3 0)) (some ⟨bw,0,none⟩) cw wr (HE.out.ints hfw HA.out) (by rw [qaB,List.length_replicate];omega) (by rw [qaB,List.length_replicate];omega))
    rw [HLEN.out] at HC
    go_wp2_with fail
    with_reducible refine HC.out.mono ?_
    rintro e w1 ⟨⟨g,c,rfl,hrow⟩,hb1⟩
    have hg0:=hrow.lt
    have hBl:=HS.out.lt
    have HFG:Hid (Far l bo Ba g):=⟨by omega,by omega,by omega⟩
    have HB0:Hid (RelFb wr g c a (.int .i64 ((0:Nat):Int)) w1):=⟨0,by omega,rfl,hrow,hb1⟩
    obtain ⟨_,R,ro,cr,_,hG1,hG2⟩:=HS.out.gen
    have HGC:=Lib.hid hG2
    have c4:w1.cell? ⟨Bc,4,none⟩=some (.slice (some ⟨G,0,none⟩) 1 1):=(HS.out.grow hb1).code 4 _ rfl
    have cG:w1.cell? ⟨G,0,none⟩=some (.slice (some ⟨R,ro,none⟩) 3 cr):=(hb1.cell (p:=⟨G,0,none⟩) (World.block_lt_of_cell? wr _ hG1)).trans hG1
    clear hrow hb1 hG1 hG2 HC
    generalize wr=wo at *
    go_wp2_with fail
    clear c4 cG
    go_loopw [40] (fun v40 wr=>RelFb wo g c a v40 wr) (fun v40 _=>3-(intOf v40).toNat)
    case atStart=>exact HB0.out
    case round =>
     obtain ⟨j,hj3,rfl,hrow,hb⟩:=hrel
     have HR:=Lib.hid hrow
     have HB:=Lib.hid hb
     clear hrow hb HB0
     by_cases hlj:j<3
     . have j0 : (0 : Int) <= (j : Int) := by omega
       have j1:(j:Int)<3:=by omega
       have hwj:IntKind.i64.wrap ((j:Int)+1)=(j:Int)+1:=IntWalk.i64_in _ (by omega)
       have cR:wr.cell? ⟨R,ro+j,none⟩=some (.int .i64 1):=(HB.out.cell (p:=⟨R,ro+j,none⟩) (World.block_lt_of_cell? wo _ (HGC.out j hlj))).trans (HGC.out j hlj)
       by_cases ha0:a=0
       . subst ha0
         go_wp2_with fail
         go_roundw
         case rel=>exact ⟨j+1,by omega,by go_num,by rw [<- mixL_z hlj];exact HR.out,HB.out⟩
         case measure=>first | (simp [intOf];done) | (simp [intOf];omega)
       . have HA1 : Hid (a = 1) := by show _ = _;omega
         have hxa:((a:Int) != 0)=true:=by rw [bne_iff_ne];omega
         have HGF:=Lib.hid ((HS.out.grow HB.out).gf.at_)
         have cg:=(HS.out.grow HB.out).gee.2
         have y1:wr.cell? ⟨g,j,none⟩=some (.int .i64 ((0:Nat):Int)):=by
          have:=HR.out.cell (j:=j) (by rw [qaB,mixL_len hj3];exact hlj)
          rw [qaF,mixL_at hlj] at this
          exact this
         have f1:=HR.out.frozen j
         have HM:Hid (∀ V,SDrew wr V->Calls Tryz.prog 142 #[.pointer (some ⟨gb,0,none⟩),.int .i64 (a:Int),.int .i64 1] V fun e w'=>e=.returned (.int .i64 (a:Int))/\SDrew wr w'):=fun V ⟨n,hV⟩=>by
          subst hV
          rw [HA1.out]
          have h:=mul_c 1 1 gb 2 1 wr.heap.size _ lT (wr.drewN n) ft_T (HGF.out.keep (qaA (Below.refl wr.heap.size wr) n)) (by omega) (by omega)
          rw [mul_T] at h
          refine h.mono ?_
          rintro e w' ⟨he,k,rfl⟩
          exact ⟨he,n+k,by rw [World.drewN_drewN]⟩
         have HAD:Hid (∀ V,SDrew wr V->Calls Tryz.prog 143 #[.pointer (some ⟨gb,0,none⟩),.int .i64 0,.int .i64 (a:Int)] V fun e w'=>e=.returned (.int .i64 (a:Int))/\SDrew wr w'):=fun V ⟨n,hV⟩=>by
          subst hV
          rw [HA1.out]
          have h:=add_c 0 1 gb 2 1 wr.heap.size lT _ (wr.drewN n) ft_T.small (HGF.out.keep (qaA (Below.refl wr.heap.size wr) n)) (by omega) (by omega)
          rw [add_T] at h
          refine h.mono ?_
          rintro e w' ⟨he,k,rfl⟩
          exact ⟨he,n+k,by rw [World.drewN_drewN]⟩
         clear HGF
         go_upto_region 12 with fail
         refine qaN 12 (SDrew wr) (by kernel_rfl) (by kernel_rfl) ⟨1,rfl⟩ ?_
         simp only [List.take_succ_cons,List.take_zero,List.drop_succ_cons,List.drop_zero]
         repeat (first
          | (apply qaM rfl
             . intro V hV
               obtain ⟨n,rfl⟩:=hV
               go_simp
               rfl
             go_simp)
          | (apply qaV rfl
             . intro V hV
               go_simp
               exact ⟨rfl,rfl⟩
             . intro V hV
               first
                | exact HM.out V hV
                | exact HAD.out V hV
             go_simp))
         refine qaJ ?_
         intro w2 hS2
         obtain ⟨n,rfl⟩:=hS2
         go_wp2_with fail
         go_roundw
         case rel =>
          refine ⟨j+1,by omega,by go_num,?_,(HB.out.trans ((qaA (Below.refl wr.heap.size wr) n).mono HB.out.size)).setCell (p:=⟨g,j,none⟩) hg0.1 _⟩
          rw [<- mixL_set hlj,<- qbX]
          exact Row.set (w:=wr.drewN n) HR.out j _
         case measure=>first | (simp [intOf];done) | (simp [intOf];omega)
     . obtain rfl : j = 3 := by omega
       have HS2:=Lib.hid (HS.out.grow HB.out)
       have HJ2:=Lib.hid (HJ.out a wo wr HJA.out (HB.out.mono (Nat.le_of_lt (Nat.lt_of_le_of_lt hz HS.out.lt))))
       have HE2:Hid (SameBut l bo Ba W wr):=HE.out.trans (.of_below HB.out)
       have HCALL:=Lib.hid (HF1.out a g 0 c wr hlt HFG.out HS2.out HJ2.out (HR.out.ints HR.out.lt.2))
       have cf:=HS2.out.frm.2
       clear HS HJA HE HB HR HGC
       go_wp2_with fail
       refine HCALL.out.mono ?_
       rintro e w3 ⟨rfl,hs3,hj3',he3⟩
       have HS3:=Lib.hid hs3
       have HJ3:=Lib.hid hj3'
       have HE3:Hid (SameBut l bo Ba W w3):=HE2.out.trans he3
       clear hs3 hj3' he3 cf HCALL HS2 HJ2 HE2
       go_wp2_with fail
       go_roundw
       case rel=>exact ⟨a+1,by omega,by go_num,HS3.out,HJ3.out,HE3.out⟩
       case measure=>first | (simp [intOf];done) | (simp [intOf];omega)
  . obtain rfl : a = 2 := by omega
    go_wp2_with fail
    go_ret
    exact ⟨rfl,HS.out,HJA.out,HE.out⟩
end Go.Proofs.YtlmglaonldlanaaGreat
namespace Go.Proofs.YtlmglaonldlanaaGreat
open Go.RowKit
structure StD where
 rule:Int
 p:Int
 m:Int
 mod:List Int
 n:Int
 gen:List (List Int)
 low:Int
 frm:List Int
 at_:List Int
 bp:Int
 bm:Int
 bmod:Nat
 r0:Int
 r1:Int
 r2:Int
 r3:Int
 r4:Int
 points:Nat
 mults:Nat
 perm:Nat
 scale:Nat
 frob:Int
 sets:List (List Int)
def StD.ok (d:StD):Prop :=
 d.mod.length<=maxLen/\d.gen.length<=maxLen/\d.frm.length<=maxLen/\d.at_.length<=maxLen/\d.bmod<=maxLen/\d.points<=maxLen/\d.mults<=maxLen/\d.perm<=maxLen/\d.scale<=maxLen/\d.sets.length<=maxLen
def stCells (d:StD) (Am Ag Af Aa Ab Ap Aq Ar As At:Option Addr) (cm cg cf ca cb cp cq cr cs ct:Nat):List Value :=
 [.int .i64 d.rule,.int .i64 d.p,.int .i64 d.m,.slice Am d.mod.length cm,.int .i64 d.n,.slice Ag d.gen.length cg,.int .i64 d.low,.slice Af d.frm.length cf,.slice Aa d.at_.length ca,
   .int .i64 d.bp,.int .i64 d.bm,.slice Ab d.bmod cb,.int .i64 d.r0,.int .i64 d.r1,.int .i64 d.r2,.int .i64 d.r3,.int .i64 d.r4,.slice Ap d.points cp,.slice Aq d.mults cq,.slice Ar d.perm cr,.slice As d.scale cs,.int .i64 d.frob,.slice At d.sets.length ct]
def StC (w:World) (B:Nat) (d:StD) (cs:List Value):Prop :=
 ∃ (Am Ag Af Aa Ab Ap Aq Ar As At:Option Addr) (cm cg cf ca cb cp cq cr cs' ct:Nat),cs=stCells d Am Ag Af Aa Ab Ap Aq Ar As At cm cg cf ca cb cp cq cr cs' ct/\d.gen.length<=cg /\
  IntsAt w B Am d.mod/\RowsAt w B Ag d.gen/\IntsAt w B Af d.frm/\IntsAt w B Aa d.at_/\RowsAt w B At d.sets
def StsAt (w:World) (B:Nat) (A:Option Addr) (ds:List StD):Prop :=
 0<ds.length->∃ b o,A=some ⟨b,o,none⟩/\b<B/\∀ i d,ds[i]?=some d->∃ cs,w.rangeAt b (o+i*23) cs/\StC w B d cs
theorem StC.len {w:World} {B:Nat} {d:StD} {cs:List Value} (h:StC w B d cs):cs.length=23:=by
 obtain ⟨_,_,_,_,_,_,_,_,_,_,_,_,_,_,_,_,_,_,_,_,rfl,_⟩:=h
 rfl
theorem StC.keep {w w':World} {B:Nat} {d:StD} {cs:List Value} (h:StC w B d cs) (hb:Below B w w'):StC w' B d cs:=by
 obtain ⟨Am,Ag,Af,Aa,Ab,Ap,Aq,Ar,As,At,cm,cg,cf,ca,cb,cp,cq,cr,cs',ct,e,hg,h1,h2,h3,h4,h5⟩:=h
 exact ⟨Am,Ag,Af,Aa,Ab,Ap,Aq,Ar,As,At,cm,cg,cf,ca,cb,cp,cq,cr,cs',ct,e,hg,h1.keep hb,h2.keep hb,h3.keep hb,h4.keep hb,h5.keep hb⟩
theorem StsAt.keep {w w':World} {B:Nat} {A:Option Addr} {ds:List StD} (h:StsAt w B A ds) (hb:Below B w w'):StsAt w' B A ds:=fun hz=>by
 obtain ⟨b,o,e,hlt,hc⟩:=h hz
 refine ⟨b,o,e,hlt,fun i d hd=>?_⟩
 obtain ⟨cs,h1,h2⟩:=hc i d hd
 exact ⟨cs,fun j v hv=>(hb.cell (p:=⟨b,o+i*23+j,none⟩) hlt).trans (h1 j v hv),h2.keep hb⟩
theorem StsAt.at_ {w:World} {B:Nat} {A:Option Addr} {ds:List StD} (h:StsAt w B A ds) {i:Nat} (hi:i<ds.length):∃ b o cs,A=some ⟨b,o,none⟩/\b<B/\w.rangeAt b (o+i*23) cs/\StC w B (ds[i]'hi) cs:=by
 obtain ⟨b,o,e,hlt,hc⟩:=h (by omega)
 obtain ⟨cs,h1,h2⟩:=hc i _ (List.getElem?_eq_getElem hi)
 exact ⟨b,o,cs,e,hlt,h1,h2⟩
theorem stepSize:(Tryz.prog.info? 40).map (·.size)=some 23:=by kernel_rfl
def SB (w:World) (b:Nat) (cs:List Value) (W:World):Prop:=W.heap[b]?=some (.cells cs.toArray 40 (0,0))/\Below w.heap.size w W/\w.heap.size<=b/\b<W.heap.size
section
variable {w:World} {b:Nat} {cs:List Value} {W W':World}
theorem SB.grow (h:SB w b cs W) (hb:Below W.heap.size W W'):SB w b cs W':=by
 obtain ⟨h1,h2,h3,h4⟩:=h
 exact ⟨(hb.block _ h4).trans h1,h2.trans (hb.mono (by omega)),h3,Nat.lt_of_lt_of_le h4 hb.size⟩
theorem SB.cell (h:SB w b cs W) {k:Nat} {v:Value} (hv:cs[k]?=some v):W.cell? ⟨b,k,none⟩=some v:=by
 rw [cell_of_row W b k _ _ _ h.1]
 simpa using hv
theorem SB.range (h:SB w b cs W):W.rangeAt b 0 cs:=qaC h.1
theorem SB.sub (h:SB w b cs W) (o:Nat) (ds:List Value) (hd:∀ j,j<ds.length->cs[o+j]?=ds[j]?):W.rangeAt b o ds:=fun j v hv=>by
 have hj:j<ds.length:=(List.getElem?_eq_some_iff.1 hv).1
 have h1:=hd j hj
 rw [hv] at h1
 have:=qaC h.1 (o+j) v h1
 rw [Nat.zero_add] at this
 exact this
end
theorem qdZ (w:World) (cs:List Value):SB w w.heap.size cs (w.alloc (.cells cs.toArray 40)):=⟨heap_alloc_new _ _,(Below.refl _ _).alloc (Nat.le_refl _) _,Nat.le_refl _,by simp⟩
theorem StC.more {w:World} {B B':Nat} {d:StD} {cs:List Value} (h:StC w B d cs) (hB:B<=B'):StC w B' d cs:=by
 obtain ⟨Am,Ag,Af,Aa,Ab,Ap,Aq,Ar,As,At,cm,cg,cf,ca,cb,cp,cq,cr,cs',ct,e,hg,h1,h2,h3,h4,h5⟩:=h
 exact ⟨Am,Ag,Af,Aa,Ab,Ap,Aq,Ar,As,At,cm,cg,cf,ca,cb,cp,cq,cr,cs',ct,e,hg,h1.more hB,h2.more hB,h3.more hB,h4.more hB,h5.more hB⟩
theorem StC.lift {w W:World} {d:StD} {cs:List Value} (h:StC w w.heap.size d cs) (hb:Below w.heap.size w W):StC W W.heap.size d cs:=(h.keep hb).more hb.size
theorem qdS {w w':World} {b o:Nat} {cs:List Value} (h:w.rangeAt b o cs) (hb:w'.heap[b]?=w.heap[b]?):w'.rangeAt b o cs:=fun j v hv=>(World.cell?_of_block (a:=⟨b,o+j,none⟩) hb).trans (h j v hv)
end Go.Proofs.YtlmglaonldlanaaGreat
namespace Go.Proofs.YtlmglaonldlanaaGreat
open Go.RowKit Pln
def formZ (d:StD):Int:=if codeZ d.p d.m d.mod d.n d.gen≠0 then codeZ d.p d.m d.mod d.n d.gen else if d.low<1\/d.n+1<d.low then 6 else 0
theorem codeZ_n {p m:Int} {mod:List Int} {n:Int} {zs:List (List Int)} (h:codeZ p m mod n zs=0):fieldOK p m mod=true/\lengthZ n=0/\spZ p m mod n zs=0:=by
 unfold codeZ at h
 split at h
 . cases h
 . rename_i h1
   split at h
   . cases h
   . rename_i h2
     exact ⟨by simpa using h1,by simpa using h2,h⟩
set_option maxHeartbeats 1000000 in
set_option maxRecDepth 100000 in
theorem formed_g (d:StD) (cs:List Value) (w:World) (h:StC w w.heap.size d cs) (hk:d.ok) :
 Calls Tryz.prog 15 #[.agg cs.toArray] w fun e w'=>e=.returned (.int .i64 (formZ d))/\Below w.heap.size w w':=by
 obtain ⟨Am,Ag,Af,Aa,Ab,Ap,Aq,Ar,As,At,cm,cg,cf,ca,cb,cp,cq,cr,cs',ct,rfl,_,h1,h2,h3,h4,h5⟩:=h
 have HX:=Lib.hid (qdZ w (stCells d Am Ag Af Aa Ab Ap Aq Ar As At cm cg cf ca cb cp cq cr cs' ct))
 have HM:=Lib.hid h1
 have HA:=Lib.hid h2
 have HF:Hid (formZ d=if codeZ d.p d.m d.mod d.n d.gen≠0 then codeZ d.p d.m d.mod d.n d.gen else if d.low<1\/d.n+1<d.low then 6 else 0):=rfl
 have HL:Hid (codeZ d.p d.m d.mod d.n d.gen=0->1<=d.n/\d.n<=64):=fun h=>by
  have:=(codeZ_n h).2.1
  unfold lengthZ at this
  split at this
  . cases this
  . omega
 obtain ⟨k1,k2,_⟩:=hk
 have e:maxLen=9223372036854775807:=rfl
 rw [e] at k1 k2
 clear h1 h2 h3 h4 h5 e
 go_enter Tryz.func15,Tryz.ntmps15
 go_upto_region 1 with fail
 generalize w.alloc (.cells (stCells d Am Ag Af Aa Ab Ap Aq Ar As At cm cg cf ca cb cp cq cr cs' ct).toArray 40)=W0 at *
 have HRG:Hid (W0.rangeAt w.heap.size 1 [.int .i64 d.p,.int .i64 d.m,.slice Am d.mod.length cm,.int .i64 d.n,.slice Ag d.gen.length cg]):=HX.out.sub 1 _ (fun j hj=>by rcases j with _ | _ | _ | _ | _ | j <;> first | rfl | (simp at hj;omega))
 have HC:=Lib.hid (qcS d.p d.m d.mod Am cm d.n d.gen Ag cg W0 ((HM.out.keep HX.out.2.1).more HX.out.2.1.size) k1 ((HA.out.keep HX.out.2.1).more HX.out.2.1.size) k2)
 clear HM HA k1 k2
 generalize codeZ d.p d.m d.mod d.n d.gen=z at *
 go_wp2_with (refine wpList_load_mid rfl 32 (.tmp 4) rfl w.heap.size 1 rfl [.int .i64 d.p,.int .i64 d.m,.slice Am d.mod.length cm,.int .i64 d.n,.slice Ag d.gen.length cg] _ HRG.out Tryz.underlying32 rfl codeSize ?_)
 (with_reducible refine HC.out.mono ?_)
 rintro e w1 ⟨rfl,hb1⟩
 have HX1:=Lib.hid (HX.out.grow hb1)
 clear hb1 HX HC HRG
 clear W0
 have y6:w1.cell? ⟨w.heap.size,6,none⟩=some (.int .i64 d.low):=HX1.out.cell rfl
 have y4:w1.cell? ⟨w.heap.size,4,none⟩=some (.int .i64 d.n):=HX1.out.cell rfl
 by_cases hz:z=0
 . subst hz
   obtain ⟨n1,n2⟩:=HL.out rfl
   have hf:=HF.out
   rw [if_neg (by simp)] at hf
   generalize d.low=low at *
   generalize d.n=N at *
   have hw:IntKind.i64.wrap (N+1)=N+1:=IntWalk.i64_in _ (by omega)
   have HF2:=Lib.hid hf
   clear hf HF
   by_cases hl:low<1
   . go_wp2_with fail
     go_ret
     exact ⟨qaD (by rw [HF2.out,if_pos (.inl hl)]),HX1.out.2.1⟩
   . by_cases hg : N + 1 < low
     . go_wp2_with fail
       go_ret
       exact ⟨qaD (by rw [HF2.out,if_pos (.inr hg)]),HX1.out.2.1⟩
     . go_wp2_with fail
       go_ret
       exact ⟨qaD (by rw [HF2.out,if_neg (by omega)]),HX1.out.2.1⟩
 . have hz2 : (z != 0) = true := bne_iff_ne.2 hz
   have hf:=HF.out
   rw [if_pos hz] at hf
   have HF2:=Lib.hid hf
   clear hf HF
   go_wp2_with fail
   go_ret
   exact ⟨qaD (by rw [HF2.out]),HX1.out.2.1⟩
end Go.Proofs.YtlmglaonldlanaaGreat
