/-
 tower.Embed.
-/
import Derived.Test.YtlmglaonldlanaaGreatQ37
namespace Go.Proofs.YtlmglaonldlanaaGreat
open Go.RowKit Pln
def CutE (w3:World) (O:Ops) (q m1:Nat) (root:Nat->Prop) (v10:Value) (wx:World):Prop :=
 ∃ (r:Nat) (VA:Option Addr) (ck:Nat),v10=.slice VA m1 ck/\IntsAt wx wx.heap.size VA (nz (pwL O r m1))/\r<q/\root r/\Below w3.heap.size w3 wx
def RelPx (wA:World) (Bp:Nat) (O:Ops) (r m1:Nat) (v10 v13:Value) (wr:World):Prop :=
 ∃ i:Nat,1<=i/\i<=m1/\v13=.int .i64 i/\Num wr Bp v10 (pwL O r i)/\wA.grownBy wr (some Bp)/\∀ b,v10.ownBlock=some b->b=Bp\/wA.heap.size<=b
theorem below_of_grown_at {w w':World} {b:Nat} (h:w.grownBy w' (some b)) (hb:b<=w.heap.size):Below b w w' :=
 ⟨h.os,h.tape,h.output,h.size,fun k hk=>h.block k (by omega) (fun e=>by injection e with e;omega)⟩
set_option maxHeartbeats 8000000 in
set_option maxRecDepth 100000 in
theorem embed_c (p1 m1:Int) (mod1:List Int) (A1:Option Addr) (c1 gb p m:Nat) (mod:List Int) (md l:List Nat) (w:World) (hA1:IntsAt w w.heap.size A1 mod1) (hl1:mod1.length<=9223372036854775807) (hF:FT p m md l) (hG:GFM w w.heap.size gb p m mod l (logL l (p ^ m))) (hml:mod.length<=1000000) :
 Calls Tryz.prog 160 #[.agg #[.int .i64 p1,.int .i64 m1,.slice A1 mod1.length c1],.pointer (some ⟨gb,0,none⟩)] w (EmbPost w p1 m1 mod1 p (opsT p m l) (p ^ m)):=by
 have hq2:=hF.small.q
 have hm2:=hF.small.m2
 have hgb:gb<w.heap.size:=hG.1
 have HF:=Lib.hid hF
 have HG:=Lib.hid hG
 have HA:=Lib.hid hA1
 have HX:=Lib.hid (qcY w [.int .i64 p1,.int .i64 m1,.slice A1 mod1.length c1] 29)
 clear hF hG hA1
 go_enter Tryz.func160,Tryz.ntmps160
 go_upto_region 1 with fail
 generalize w.alloc (.cells #[.int .i64 p1,.int .i64 m1,.slice A1 mod1.length c1] 29)=W0 at *
 have HRG:=Lib.hid HX.out.range
 have HN:=Lib.hid (qeN p1 m1 mod1 A1 c1 W0 ((HA.out.keep HX.out.below).more HX.out.below.size) hl1)
 go_wp2_with (refine wpList_load_mid rfl 29 (.tmp 2) rfl w.heap.size 0 rfl [.int .i64 p1,.int .i64 m1,.slice A1 mod1.length c1] _ HRG.out Tryz.underlying29 rfl fieldSize ?_)
 (with_reducible refine HN.out.mono ?_)
 rintro e w1 ⟨hcase,hb1⟩
 have HX1:=Lib.hid (HX.out.grow hb1)
 clear hb1 HX HRG HN
 rcases hcase with ⟨hok,rfl⟩ | ⟨hok,gs,rfl,_,hgs⟩
 . go_wp2_with fail
   go_ret2
   exact ⟨⟨none,0,0,1,rfl,fun h=>by cases h⟩,HX1.out.below⟩
 have hs:=qbJ (by unfold fieldOK at hok;rw [Bool.and_eq_true] at hok;exact hok.1:shapeM p1 m1 mod1=true)
 have HS:=Lib.hid hs
 have HOK:=Lib.hid hok
 have HGS:=Lib.hid hgs.gf
 have HFS:=Lib.hid (qaW hok)
 have hp0:=hs.p0
 have hm0:=hs.m0
 have hsm1:=hs.small.m1
 have hsm2:=hs.small.m2
 have hsq:=hs.small.q
 have HP1:=Lib.hid (prime_c gb w.heap.size p m mod l _ w1 (HG.out.keep HX1.out.below) HX1.out.below.size hml)
 clear hgs hok hs
 go_wp2_with fail
 (with_reducible refine HP1.out.mono ?_)
 rintro e w2 ⟨rfl,hb2⟩
 have HX2:=Lib.hid (HX1.out.grow hb2)
 have HGS2:=Lib.hid ((HGS.out.keep hb2).more hb2.size)
 clear hb2 HX1 HP1 HGS
 have y0:w2.cell? ⟨w.heap.size,0,none⟩=some (.int .i64 p1):=HX2.out.cell rfl
 by_cases hpp:p1=(p:Int)
 rotate_left
 . have hpb : (p1 != (p : Int)) = true := bne_iff_ne.2 hpp
   clear hpp
   go_wp2_with fail
   go_ret2
   exact ⟨⟨none,0,0,10,rfl,fun h=>by cases h⟩,HX2.out.below⟩
 have hpb:(p1 != (p:Int))=false:=by rw [hpp];simp
 have HPP:=Lib.hid hpp
 have y1:w2.cell? ⟨w.heap.size,1,none⟩=some (.int .i64 m1):=HX2.out.cell rfl
 have HD:=Lib.hid (isdegree_c gb w.heap.size p m m1 mod l _ w2 (HG.out.keep HX2.out.below) HX2.out.below.size hml hm2)
 clear hpp
 go_wp2_with fail
 (with_reducible refine HD.out.mono ?_)
 rintro e w3 ⟨rfl,hb3⟩
 have HX3:=Lib.hid (HX2.out.grow hb3)
 have HGS3:=Lib.hid ((HGS2.out.keep hb3).more hb3.size)
 clear hb3 HX2 HD HGS2 y0 y1
 cases hdg:degB m m1
 . go_wp2_with fail
   go_ret2
   exact ⟨⟨none,0,0,10,rfl,fun h=>by cases h⟩,HX3.out.below⟩
 clear hdg hpb
 have hws3:w.heap.size<w3.heap.size:=HX3.out.2.2
 have y1:w3.cell? ⟨w.heap.size,1,none⟩=some (.int .i64 m1):=HX3.out.cell rfl
 go_upto_region 8 with fail
 have hba:Below w3.heap.size w3 (w3.alloc (.cells #[.int .i64 1] 3)):=(Below.refl _ _).alloc (Nat.le_refl _) _
 have HKp:Hid ((w3.alloc (.cells #[.int .i64 1] 3)).heap[w3.heap.size]?=some (.cells #[.int .i64 ((1:Nat):Int)] 3 (0,0))):=heap_alloc_new _ _
 have HNp:Hid (Num (w3.alloc (.cells #[.int .i64 1] 3)) w3.heap.size (.slice (some ⟨w3.heap.size,0,none⟩) 1 1) [1]):=World.ownsRow_lit (size:=1) w3 #[.int .i64 1] 1 (Nat.le_refl _) (by unfold maxLen;omega) rfl
 have HBa:=Lib.hid hba
 have hsa:w3.heap.size<(w3.alloc (.cells #[.int .i64 1] 3)).heap.size:=by simp
 clear y1 hba
 generalize w3.alloc (.cells #[.int .i64 1] 3)=w4 at *
 have y1:w4.cell? ⟨w.heap.size,1,none⟩=some (.int .i64 m1):=(HBa.out.cell (p:=⟨w.heap.size,1,none⟩) hws3).trans (HX3.out.cell rfl)
 obtain ⟨root,hroot⟩:∃ root:Nat->Prop,root=fun r=>m1=1\/evN (opsT p m l) (mdOf m1 mod1++[1]) r=0:=⟨_,rfl⟩
 have HRT:=Lib.hid hroot
 clear hroot
 go_upto_if 43 with fail
 go_cut [10] (fun v10 wx=>CutE w3 (opsT p m l) (p ^ m) m1.toNat root v10 wx)
 case first =>
  by_cases hm1:m1=1
  . have hm1b : ¬ 1 < m1 := by omega
    have HC:Hid (CutE w3 (opsT p m l) (p ^ m) m1.toNat root (.slice (some ⟨w3.heap.size,0,none⟩) 1 1) w4):=by
     refine ⟨0,some ⟨w3.heap.size,0,none⟩,1,by rw [hm1];rfl,?_,Nat.pow_pos (by have:=HF.out.small.p1;omega),by rw [HRT.out];exact .inl hm1,HBa.out⟩
     rw [hm1]
     exact HNp.out.up.ints
    clear hm1
    go_wp2_with fail
    go_meet
    exact HC.out
  . have hm1b : 1 < m1 := by omega
    have hml1:mod1.length=m1.toNat:=HS.out.len hm1
    have hmn:nz (mdOf m1 mod1)=mod1:=HS.out.nat hm1
    have hmlt:=HS.out.lt
    have hmdl:(mdOf m1 mod1).length=mod1.length:=by rw [<- hmn,qaB];simp [hmn]
    have hpe:p1.toNat=p:=by have:=HPP.out;omega
    obtain ⟨i0,hi,hz0,hz1,hz2⟩:=qaG infoInt
    have hHB:Below w.heap.size w w4:=HX3.out.below.trans (HBa.out.mono (Nat.le_of_lt hws3))
    have hA4:IntsAt w4 w4.heap.size A1 mod1:=(HA.out.keep hHB).more hHB.size
    obtain ⟨ba,oa,rfl,hba,hca⟩:=hA4 (by omega)
    have hbe:Below w4.heap.size w4 (w4.alloc (.cells #[] 3)):=(Below.refl _ _).alloc (Nat.le_refl _) _
    obtain ⟨g6,cap6,w6,hrun6,hown6,hgr6,hat6,hlt6⟩:=run_append_lies (P:=Tryz.prog) (w4.alloc (.cells #[] 3)) 23 23 w4.heap.size 3 i0 _ 1 8 Tryz.underlying23 hi hz0 hz1 hz2 rfl (by decide) (.slice (some ⟨w4.heap.size,0,none⟩) 0 0) 0 [] (World.ownsRow_made w4 #[] 0 (Nat.le_refl _) (by unfold maxLen;omega) rfl) ⟨ba,oa,none⟩ mod1.length c1 (mod1.map (Value.int .i64)) (by simp) ((hA4.keep hbe).news) (by intro u hu;obtain ⟨z,_,rfl⟩:=List.mem_map.1 hu;rfl) (by omega) (by unfold maxLen;omega) (by omega) (by simp) _ rfl
    have hb6:Below w4.heap.size w4 w6:=hbe.grown hgr6 hbe.size (fun k hk=>by simp [Value.ownBlock] at hk;omega)
    have hn6:Num w6 w4.heap.size (.slice (some ⟨g6,0,none⟩) mod1.length cap6) (mdOf m1 mod1):=by
     unfold Num
     rw [hmn,hmdl]
     simpa using hown6
    have hb7:Below w4.heap.size w4 (w6.alloc (.cells #[.int .i64 1] 3)):=hb6.alloc hb6.size _
    obtain ⟨v7,w7,hrun7,hn7,hg7⟩:=app_int (W:=w6.alloc (.cells #[.int .i64 ((1:Nat):Int)] 3)) 1 w6.heap.size (World.ownsRow.alloc hn6 _) hb7.size (by omega) (heap_alloc_new _ _)
    have hb8:Below w4.heap.size w4 w7:=hb7.grown hg7 hb7.size (fun k hk=>(World.ownsRow.lt hn6 k hk).1)
    obtain ⟨vl,hvl⟩:∃ vl,mdOf m1 mod1++[1]=vl:=⟨_,rfl⟩
    have hvll:vl.length=mod1.length+1:=by rw [<- hvl];simp;omega
    have hlast:vl.getD (vl.length-1) 0=1:=by
     rw [hvll,<- hvl,show mod1.length+1-1=(mdOf m1 mod1).length by omega]
     simp [List.getD]
    have hvq:∀ x∈vl,x<p ^ m:=fun x hx=>by
     have hq1:=(Al.fld_of HF.out).q1
     have hpq:p<=p ^ m:=Nat.le_self_pow (by have:=HF.out.small.m1;omega) p
     rw [<- hvl] at hx
     rcases List.mem_append.1 hx with hx | hx
     . have := hmlt x hx
       omega
     . have : x = 1 := by simpa using hx
       omega
    rw [hvl] at hn7
    obtain ⟨VA7,ck7,hv7⟩:=hn7.slice
    rw [hv7] at hrun7 hn7
    have HRT2:Hid (∀ r,evN (opsT p m l) vl r=0->root r):=fun r hr=>by rw [HRT.out];right;rw [hvl];exact hr
    have HRO:=Lib.hid (roots_c gb p m md l vl VA7 ck7 w7 HF.out (((HG.out.keep (hHB.trans (hb8.mono hHB.size))).gf).more (by have:=hHB.size;have:=hb8.size;omega)) hvq hn7.up.ints (by omega) (by omega) (by omega))
    rw [Nat.zero_add] at hrun6
    have HRUN6:=Lib.hid hrun6
    have HRUN7:=Lib.hid hrun7
    have HB8:=Lib.hid hb8
    have hs8:w4.heap.size<=w7.heap.size:=hb8.size
    have y2:(w4.alloc (.cells #[] 3)).cell? ⟨w.heap.size,2,none⟩=some (.slice (some ⟨ba,oa,none⟩) mod1.length c1):=(hbe.cell (p:=⟨w.heap.size,2,none⟩) (by show w.heap.size < _;omega)).trans ((HBa.out.cell (p:=⟨w.heap.size,2,none⟩) hws3).trans (HX3.out.cell rfl))
    have HML1:=Lib.hid hml1
    have HVLL:=Lib.hid hvll
    have hml2:2<=mod1.length:=by omega
    clear hml1 hvll hmn hmlt hmdl hpe hi hz0 hz1 hz2 hA4 hca hbe hrun6 hown6 hgr6 hat6 hlt6 hb6 hn6 hb7 hrun7 hn7 hg7 hb8 hv7 hvq hlast hvl HNp
    go_upto_region 10 with (first
     | (at_builtin;refine qeH (v1:=.slice (some ⟨w4.heap.size,0,none⟩) 0 0) (v2:=.slice (some ⟨ba,oa,none⟩) mod1.length c1) (v:=.slice (some ⟨g6,0,none⟩) mod1.length cap6) (w':=w6) rfl (.tmp 46) (.tmp 48) 23 rfl rfl rfl HRUN6.out ?_)
     | (at_builtin;refine qeH (v1:=.slice (some ⟨g6,0,none⟩) mod1.length cap6) (v2:=.slice (some ⟨w6.heap.size,0,none⟩) 1 1) (v:=.slice VA7 vl.length ck7) (w':=w7) rfl (.tmp 49) (.tmp 50) 23 rfl rfl rfl HRUN7.out ?_))
    (with_reducible refine HRO.out.mono ?_)
    rintro e w8 ⟨⟨VR,rs,ckr,rfl,hup,hrs⟩,hb9⟩
    have HBA8:Hid (Below w3.heap.size w3 w8):=HBa.out.trans ((HB8.out.trans (hb9.mono hs8)).mono (Nat.le_of_lt hsa))
    have hs9:w4.heap.size<=w8.heap.size:=Nat.le_trans hs8 hb9.size
    have HKp8:Hid (w8.heap[w3.heap.size]?=some (.cells #[.int .i64 ((1:Nat):Int)] 3 (0,0))):=((HB8.out.trans (hb9.mono hs8)).block _ hsa).trans HKp.out
    have HUP:Hid (IntsUp w8 w4.heap.size VR (nz rs)):=hup.lower hs8
    have HRS:=Lib.hid hrs
    clear hup hrs hb9 HRO HRUN6 HRUN7 HB8 y2 HKp
    have hrl0:(0:Int)<=(rs.length:Int):=by omega
    by_cases hr0:rs.length=0
    . have hrb : ((rs.length : Int) == 0) = true := beq_iff_eq.2 (by omega)
      have HBW:Hid (Below w.heap.size w w8):=HX3.out.below.trans (HBA8.out.mono (Nat.le_of_lt hws3))
      clear hr0
      go_wp2_with fail
      go_ret2
      exact ⟨⟨none,0,0,10,rfl,fun h=>by cases h⟩,HBW.out⟩
    have hrb:((rs.length:Int)==0)=false:=beq_false_of_ne (by omega)
    have hrp:(0:Int)<(rs.length:Int):=by omega
    obtain ⟨br,orr,rfl,hbr1,hbr2,hcr⟩:=HUP.out (by rw [qaB];omega)
    have hcr0:=hcr 0 (by rw [qaB];omega)
    rw [qaF,Nat.add_zero] at hcr0
    obtain ⟨hrq,hrz⟩:=HRS.out (rs.getD 0 0) (by
     have:rs.getD 0 0=rs[0]'(by omega):=by simp [List.getD,show 0<rs.length by omega]
     rw [this]
     exact List.getElem_mem _)
    have HROOT:=Lib.hid (HRT2.out _ hrz)
    have HCR:=Lib.hid hcr0
    obtain ⟨r,hr⟩:∃ r,rs.getD 0 0=r:=⟨_,rfl⟩
    rw [hr] at HCR HROOT hrq
    have hP0:Hid (RelPx w8 w3.heap.size (opsT p m l) r m1.toNat (.slice (some ⟨w3.heap.size,0,none⟩) 1 1) (.int .i64 1) w8):=by
     refine ⟨1,Nat.le_refl _,hsm1,rfl,?_,⟨rfl,rfl,rfl,Nat.le_refl _,fun _ _ _=>rfl⟩,fun b hb=>.inl (by injection hb with hb;exact hb.symm)⟩
     show Num w8 w3.heap.size (.slice (some ⟨w3.heap.size,0,none⟩) 1 1) [1]
     exact ⟨rfl,.inr ⟨w3.heap.size,1,#[.int .i64 1],rfl,Nat.le_refl _,HKp8.out,by first | decide | (unfold maxLen;omega),by first | decide | (unfold maxLen;omega),by first | decide | simp,rfl⟩⟩
    have hrn:0<rs.length:=by omega
    clear hr hcr hcr0 hrz HRS HUP hr0 HRT2
    have HML:Hid (∀ x y,x<p ^ m->y<p ^ m->(opsT p m l).mul x y<p ^ m):=fun x y hx hy=>qcZ HF.out hx hy
    have HPQ:Hid (∀ k,pwN (opsT p m l) r k<p ^ m):=pwN_lt HML.out (Al.fld_of HF.out).q1 hrq
    have HG8:Hid (GFAt w8 w.heap.size gb p m l (logL l (p ^ m))):=(HG.out.keep (HX3.out.below.trans (HBA8.out.mono (Nat.le_of_lt hws3)))).gf
    have HMUL:Hid (∀ (x:Nat) (W:World),x<p ^ m->Below w.heap.size w8 W->Calls Tryz.prog 142 #[.pointer (some ⟨gb,0,none⟩),.int .i64 (x:Int),.int .i64 (r:Int)] W (Quiet (.int .i64 (((opsT p m l).mul x r:Nat):Int)) W)) :=
     fun x W hx hW=>mul_c x r gb p m w.heap.size md l W HF.out (HG8.out.keep hW) hx hrq
    have HPS:Hid (∀ k,pwN (opsT p m l) r (k+1)=(opsT p m l).mul (pwN (opsT p m l) r k) r):=fun k=>rfl
    have y1:w8.cell? ⟨w.heap.size,1,none⟩=some (.int .i64 m1):=(HBA8.out.cell (p:=⟨w.heap.size,1,none⟩) hws3).trans (HX3.out.cell rfl)
    clear HML HGS3 HFS HS HOK HA HG
    generalize opsT p m l=O at *
    generalize hqe:p ^ m=q at *
    clear hqe
    go_wp2_with fail
    go_loopw [10,13] (fun v10 v13 wr=>RelPx w8 w3.heap.size O r m1.toNat v10 v13 wr) (fun _ v13 _=>m1.toNat-(intOf v13).toNat)
    case atStart=>exact hP0.out
    case round =>
     obtain ⟨i,hi1,him,rfl,hnum,hgr,hown⟩:=hrel
     have HNUM:=Lib.hid hnum
     have HGRW:=Lib.hid hgr
     have HOWN:=Lib.hid hown
     have HBW:Hid (Below w3.heap.size w8 wr):=below_of_grown_at hgr (by have:=HBA8.out.size;omega)
     have y1r:wr.cell? ⟨w.heap.size,1,none⟩=some (.int .i64 m1):=(HBW.out.cell (p:=⟨w.heap.size,1,none⟩) hws3).trans y1
     have hszr:w8.heap.size<=wr.heap.size:=hgr.size
     obtain ⟨VA,ck,rfl⟩:=hnum.slice
     rw [qdT] at HNUM HOWN ⊢
     clear hnum hgr hown hP0 y1
     by_cases hlt:i<m1.toNat
     . have i1 : (i : Int) < m1 := by omega
       have i2:IntKind.i64.wrap ((i:Int)-1)=((i-1:Nat):Int):=by rw [IntWalk.i64_in _ (by omega)];omega
       have i3:IntKind.i64.wrap ((i:Int)+1)=(i:Int)+1:=IntWalk.i64_in _ (by omega)
       have i4:(0:Int)<=((i-1:Nat):Int):=by omega
       have i5:((i-1:Nat):Int)<(i:Int):=by omega
       have HUPS:Hid (IntsAt wr wr.heap.size VA (nz (pwL O r i))):=by
        have h:=HNUM.out
        unfold Num at h
        rw [qdT] at h
        exact (qcQ h (qdT O r i)).ints
       obtain ⟨bp,op,rfl,hbp,hcp⟩:=HUPS.out.at_ (k:=i-1) (by rw [qaB,qdT];omega)
       rw [qaF,pwL_at O r i (i-1) (by omega)] at hcp
       have hxq:=HPQ.out (i-1)
       have HSUC:Hid (pwL O r (i+1)=pwL O r i++[O.mul (pwN O r (i-1)) r]):=by
        show _=_
        rw [pwL_succ]
        obtain ⟨j,rfl⟩:∃ j,i=j+1:=⟨i-1,by omega⟩
        rw [HPS.out j]
        rfl
       generalize pwN O r (i-1)=x at *
       have hcrr:wr.cell? ⟨br,orr,none⟩=some (.int .i64 (r:Int)):=(World.cell?_of_block (a:=⟨br,orr,none⟩) (HGRW.out.block br (by omega) (fun e=>by injection e with e;omega))).trans HCR.out
       have HCV:Hid (∀ W,LSt wr W->W.cell? ⟨bp,op+(i-1),none⟩=some (.int .i64 (x:Int))/\W.cell? ⟨br,orr,none⟩=some (.int .i64 (r:Int))):=fun W hW=>⟨(Below.cell hW (p:=⟨bp,op+(i-1),none⟩) hbp).trans hcp,(Below.cell hW (p:=⟨br,orr,none⟩) (by show br < _;omega)).trans hcrr⟩
       have HS0:Hid (LSt wr wr.drew):=(Below.refl _ _).drew
       have HMU:=Lib.hid (HMUL.out x wr.drew hxq ((HBW.out.mono (Nat.le_of_lt hws3)).drew))
       clear hcp hcrr HMUL HUPS hxq
       go_upto_region 15 with fail
       refine qbL 12 (LSt wr) [(true,0),(true,1),(true,2),(true,3),(true,4),(true,5),(true,6),(true,7),(true,8),(true,9),(false,10),(false,11)] default (by kernel_rfl) (by kernel_rfl) (fun _ _ d _ _ h=>by cases d <;> exact h) HS0.out ?_
       generalize wr.drew=W1 at *
       simp only [List.map_cons,List.map_nil,List.getD_cons_zero,List.getD_cons_succ]
       iterate 10
        apply qdA rfl
        . intro W hW
          obtain ⟨z0,z1⟩:=HCV.out W hW
          go_simp
          rfl
        go_simp
       apply qdB rfl
       . go_simp
         exact ⟨rfl,rfl⟩
       with_reducible refine HMU.out.mono ?_
       rintro e w' ⟨rfl,n,rfl⟩
       have HS1:Hid (LSt wr (W1.drewN n)):=qaA HS0.out n
       refine ⟨_,rfl,HS1.out,?_⟩
       go_simp
       generalize W1.drewN n=W2 at *
       have HS2:Hid (LSt wr (W2.alloc (.cells #[.int .i64 ((O.mul x r:Nat):Int)] 3))):=Below.alloc HS1.out (Below.size HS1.out) _
       have hsz2:wr.heap.size<=W2.heap.size:=Below.size HS1.out
       have hN2:Num (W2.alloc (.cells #[.int .i64 ((O.mul x r:Nat):Int)] 3)) w3.heap.size (.slice (some ⟨bp,op,none⟩) i ck) (pwL O r i):=World.ownsRow.alloc (HNUM.out.grow HS1.out) _
       obtain ⟨i0,hi,hz0,hz1,hz2⟩:=qaG infoInt
       obtain ⟨v',w6,hrun,hown6,hg6,_,hat6⟩:=run_append_own_at (P:=Tryz.prog) (w:=W2.alloc (.cells #[.int .i64 ((O.mul x r:Nat):Int)] 3)) w3.heap.size 23 23 3 i0 _ 1 8 Tryz.underlying23 hi hz0 hz1 hz2 rfl (by decide) (.slice (some ⟨bp,op,none⟩) i ck) (pwL O r i).length _ hN2 ⟨W2.heap.size,0,none⟩ 1 1 [.int .i64 ((O.mul x r:Nat):Int)] rfl (World.news_of_block (cs:=#[.int .i64 ((O.mul x r:Nat):Int)]) (t:=3) (fr:=(0,0)) (heap_alloc_new _ _)) (by intro u hu;simp at hu;subst hu;rfl) (by rw [qdT];unfold maxLen;omega) (by rw [qdT];omega) (by have:=HBA8.out.size;simp;omega)
       have HRUN:=Lib.hid hrun
       have HN6:Hid (Num w6 w3.heap.size v' (pwL O r (i+1))):=by
        have h:=Num.step hown6
        rw [<- HSUC.out] at h
        exact h
       have HG6:=Lib.hid hg6
       have HS26:Hid (LSt wr W2):=HS1.out
       have HAT:=Lib.hid hat6
       clear hi hz0 hz1 hz2 hrun hown6 hg6 hat6
       apply qfB rfl
       . go_simp
         exact ⟨rfl,rfl⟩
       . exact HS2.out
       go_simp
       refine qeU ?_
       go_wp2_with (first
        | (at_builtin;refine qeH (v:=v') (w':=w6) rfl (.tmp 64) (.tmp 75) 23 rfl rfl rfl HRUN.out ?_))
       have hbl:∀ b,(Value.slice (some ⟨bp,op,none⟩) i ck).ownBlock=some b->b=w3.heap.size\/w8.heap.size<=b:=HOWN.out
       have hsB:wr.heap.size<=(W2.alloc (.cells #[.int .i64 ((O.mul x r:Nat):Int)] 3)).heap.size:=HS2.out.size
       refine ⟨⟨i+1,by omega,by omega,by simp,HN6.out,⟨HG6.out.os.trans (HS2.out.os.trans HGRW.out.os),HG6.out.tape.trans (HS2.out.tape.trans HGRW.out.tape),HG6.out.output.trans (HS2.out.output.trans HGRW.out.output),Nat.le_trans hszr (Nat.le_trans hsB HG6.out.size),fun k hk hne=>(HG6.out.block k (by omega) (fun e=>by
        rcases hbl k e.symm with rfl | h
        . exact hne rfl
        . omega)).trans ((HS2.out.block k (by omega)).trans (HGRW.out.block k hk hne))⟩,?_⟩,by simp [intOf];omega⟩
       intro b hb
       rcases HAT.out with h | h
       . rw [h] at hb
         exact hbl b hb
       . rw [h] at hb
         injection hb with hb
         right
         omega
     . obtain rfl : i = m1.toNat := by omega
       have i1:¬ (m1.toNat:Int)<m1:=by omega
       have HC:Hid (CutE w3 O q m1.toNat root (.slice VA m1.toNat ck) wr):=by
        refine ⟨r,VA,ck,rfl,?_,hrq,HROOT.out,HBA8.out.trans HBW.out⟩
        have h:=HNUM.out
        unfold Num at h
        rw [qdT] at h
        exact (qcQ h (qdT O r _)).ints
       clear HNUM HOWN HGRW
       rw [hm0]
       go_wp2_with fail
       go_meet
       exact HC.out
 case rest =>
  obtain ⟨r,VA,ck,rfl,hip,hrq,hrt,hbc⟩:=hcut
  have hpe:p1.toNat=p:=by have:=HPP.out;omega
  have hp10:0<p:=by have:=HF.out.small.p1;omega
  have HGC:=Lib.hid ((HGS3.out.keep hbc).more hbc.size)
  have hwc:w3.heap.size<=wc.heap.size:=hbc.size
  have HBC:Hid (Below w.heap.size w wc):=HX3.out.below.trans (hbc.mono (Nat.le_of_lt hws3))
  have HIP:=Lib.hid hip
  have HGB:Hid (GFAt wc w.heap.size gb p m l (logL l (p ^ m))):=(HG.out.keep HBC.out).gf
  have HRR:Hid (r<p ^ m/\(m1=1\/evN (opsT p m l) (mdOf m1 mod1++[1]) r=0)):=⟨hrq,by rw [HRT.out] at hrt;exact hrt⟩
  have hpq:p<=p ^ m:=Nat.le_self_pow (by have:=HF.out.small.m1;omega) p
  have HML:Hid (∀ x y,x<p ^ m->y<p ^ m->(opsT p m l).mul x y<p ^ m):=fun x y hx hy=>qcZ HF.out hx hy
  have HPQ:Hid (∀ k,pwN (opsT p m l) r k<p ^ m):=pwN_lt HML.out (Al.fld_of HF.out).q1 hrq
  obtain ⟨q1,hq1⟩:∃ q1,p1.toNat ^ m1.toNat=q1:=⟨_,rfl⟩
  have HDG:Hid (∀ (x:Nat) (W:World),x<q1->Below wc.heap.size wc W->Calls Tryz.prog 205 #[.pointer (some ⟨gs,0,none⟩),.int .i64 x] W fun e w'=>(∃ g,e=.returned (.slice (some ⟨g,0,none⟩) m1.toNat m1.toNat)/\Row w' W.heap.size g m1.toNat (nz (digs p m1.toNat x)))/\Below W.heap.size W w'):=fun x W hx hW=>by
   have h:=digits_c x gs p1.toNat m1.toNat wc.heap.size _ _ W HS.out.small (HGC.out.keep hW) hW.size (by rw [hq1];exact hx)
   rw [hpe] at h
   exact h
  have HDT:Hid (∀ (x:Nat) (g:Nat) (W:World),Below wc.heap.size wc W->IntsAt W W.heap.size (some ⟨g,0,none⟩) (nz (digs p m1.toNat x))->Calls Tryz.prog 138 #[.pointer (some ⟨gb,0,none⟩),.slice (some ⟨g,0,none⟩) m1.toNat m1.toNat,.slice VA m1.toNat ck] W (Quiet (.int .i64 ((imN (opsT p m l) p m1.toNat r x:Nat):Int)) W)):=fun x g W hW hg=>by
   have hdl:(digs p m1.toNat x).length=m1.toNat:=qaK ..
   have h:=dot_c gb p m W.heap.size md l (digs p m1.toNat x) (pwL (opsT p m l) r m1.toNat) (some ⟨g,0,none⟩) VA m1.toNat ck W HF.out (((HGB.out.keep (hW.mono HBC.out.size))).more (Nat.le_trans HBC.out.size hW.size)) (by rw [qdT,hdl]) (fun y hy=>by
    have:=qeQ (p:=p) hp10 m1.toNat x y hy
    omega) (fun y hy=>by
    obtain ⟨k,_,rfl⟩:=List.mem_map.1 hy
    exact HPQ.out k) hg ((HIP.out.keep hW).more hW.size) (by rw [hdl];omega)
   rw [hdl] at h
   exact h
  have HGO:Hid (Calls Tryz.prog 120 #[.pointer (some ⟨gs,0,none⟩)] wc fun e w'=>e=.returned (.int .i64 (q1:Int))/\wc=w'):=by
   have h:=gorder_c gs wc.heap.size p1.toNat m1.toNat _ _ wc HGC.out
   rw [hq1] at h
   exact h
  rw [hq1] at hsq
  obtain ⟨f,hf⟩:∃ f,imN (opsT p m l) p m1.toNat r=f:=⟨_,rfl⟩
  have HFIN:Hid (∀ (w':World) (A:Option Addr),IntsAt w' w'.heap.size A (nz ((List.range q1).map f))->Below w.heap.size w w'->EmbPost w p1 m1 mod1 p (opsT p m l) (p ^ m) (.returned (.tuple #[.slice A q1 q1,.int .i64 0])) w'):=fun w' A hA hb =>
   ⟨⟨A,q1,q1,0,rfl,fun _=>⟨HOK.out,HPP.out,hq1.symm,r,HRR.out.1,HRR.out.2,by rw [hf];exact hA⟩⟩,hb⟩
  rw [hf] at HDT
  clear hip hrq hrt hbc HGC HIP HGB HRR HML HPQ HRT HGS3 HFS HS HOK HA HG HNp HKp hpq hf y1 HPP hq1 HX3
  obtain ⟨i0,hi,hz0,hz1,hz2⟩:=qaG infoInt
  have HI:=Lib.hid hi
  have HZ0:=Lib.hid hz0
  have HZ1:=Lib.hid hz1
  have HB2:=Lib.hid (show i0.bytes*q1<=281474976710656 by rw [hz2];omega)
  have HB3:=Lib.hid (show q1<=maxLen by unfold maxLen;omega)
  clear hi hz0 hz1 hz2
  have HQ:=Lib.hid hsq
  generalize EmbPost w p1 m1 mod1 p (opsT p m l) (p ^ m)=POST at *
  clear HF
  clear hsq
  go_wp2_with fail
  (with_reducible refine HGO.out.mono ?_)
  rintro e w' ⟨rfl,rfl⟩
  go_wp2_with (refine wpList_make_full wc rfl (.tmp 78) (.tmp 78) 23 rfl wc.heap.size 3 i0 (.int .i64 0) 1 Tryz.underlying23 HI.out HZ0.out HZ1.out .i64 .i64 q1 q1 q1 rfl rfl rfl rfl HB2.out HB3.out (Nat.le_refl _) ?_;intro w1 hown hgr)
  have HS:Hid (RelEm wc f q1 wc.heap.size wc.heap.size (.int .i64 ((0:Nat):Int)) w1):=⟨0,by omega,rfl,by
   have:=Row.of_make hown
   unfold scK
   simpa using this,qaL hgr⟩
  clear hown hgr
  go_loopw [82] (fun v82 wr=>RelEm wc f q1 wc.heap.size wc.heap.size v82 wr) (fun v82 _=>q1-(intOf v82).toNat)
  case atStart=>exact HS.out
  case round =>
   obtain ⟨k,hk,rfl,hrow,hb⟩:=hrel
   have HR:=Lib.hid hrow
   have HB:=Lib.hid hb
   have hqb:=HQ.out
   clear hrow hb HS
   by_cases hlt:k<q1
   . have HST := Lib.hid (scK_set f (List.range q1) k (by simpa using hlt))
     have hgk:(List.range q1).getD k 0=k:=by simp [List.getD,hlt]
     rw [hgk] at HST
     clear hgk
     go_wp2_with fail
     (with_reducible refine (HDG.out k wr hlt HB.out).mono ?_)
     rintro e w2 ⟨⟨g,rfl,hrow2⟩,hb2⟩
     have HB2:Hid (Below wc.heap.size wc w2):=HB.out.trans (hb2.mono HB.out.size)
     have HDT2:=Lib.hid (HDT.out k g w2 HB2.out (hrow2.ints hrow2.lt.2))
     have HR2:Hid (Row w2 wc.heap.size wc.heap.size q1 (nz (scK f (List.range q1) k))):=HR.out.below hb2 HR.out.lt.2
     clear hrow2 hb2
     go_wp2_with fail
     (with_reducible refine HDT2.out.mono ?_)
     rintro e w3 ⟨rfl,n,rfl⟩
     have f0:=HR2.out.frozen k
     have c0:=HR2.out.cell (j:=k) (by rw [qaB,scK_len f _ k (by simpa using hk)];simpa using hlt)
     go_wp2_with fail
     go_roundw
     case rel =>
      refine ⟨k+1,by omega,by go_num,?_,(qaA HB2.out n).setCell (p:=⟨wc.heap.size,k,none⟩) (Nat.le_refl _) _⟩
      rw [<- HST.out,<- qbX]
      exact Row.set (w:=w2.drewN n) HR2.out k _
     case measure=>simp [intOf];omega
   . obtain rfl : q1 = k := by omega
     go_wp2_with fail
     refine HFIN.out _ _ ?_ (HBC.out.trans (HB.out.mono HBC.out.size))
     have h:=HR.out
     unfold scK at h
     rw [List.length_range,Nat.sub_self,List.replicate_zero,List.append_nil,List.take_of_length_le (by simp)] at h
     exact Row.ints h (Row.lt h).2
end Go.Proofs.YtlmglaonldlanaaGreat
