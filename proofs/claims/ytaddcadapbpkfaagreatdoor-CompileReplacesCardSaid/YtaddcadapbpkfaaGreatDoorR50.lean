/-
 The law CompileReplaces: the walk.
-/
import Derived.Test.YtaddcadapbpkfaaGreatDoorR41
import Derived.Test.YtaddcadapbpkfaaGreatDoorR42
import Derived.Test.YtaddcadapbpkfaaGreatDoorR47
import Derived.Test.YtaddcadapbpkfaaGreatDoorR48
import Derived.Test.YtaddcadapbpkfaaGreatDoorR49
namespace Go.Proofs.YtaddcadapbpkfaaGreatDoor
open Go.RowKit Pln
def RelSm (w : World) (cx : List Value) (vs : List E) (v30 : Value) (g : Nat) (wr : World) : Prop :=
 ∃ i,i + g = vs.length /\ v30 = .int .i64 i /\ WSt w cx wr /\ ∀ j y,j < i -> vs[j]? = some y -> OkS y
theorem errW_zero {x : E} {ns : List (List UInt8)} {vs : List E} (h : errW x ns vs = 0) : checkE x = 0 := by
 unfold errW at h
 split at h
 . split at h
   . unfold errL at h
     split at h
     . assumption
     . omega
   . cases h
 . cases h
theorem replR_cases (x : E) (ns : List (List UInt8)) (vs : List E) :
 (errW x ns vs ≠ 0 /\ replR x ns vs = (errW x ns vs,zeroE)) \/
   (errW x ns vs = 0 /\ lawE (lkP (ns.zip vs)) x = repE (lkP (ns.zip vs)) x /\ (replR x ns vs).1 = ((checkE (lawE (lkP (ns.zip vs)) x) : Nat) : Int) /\ (checkE (lawE (lkP (ns.zip vs)) x) ≠ 0 -> (replR x ns vs).2 = zeroE) /\ (checkE (lawE (lkP (ns.zip vs)) x) = 0 -> (replR x ns vs).2 = lawE (lkP (ns.zip vs)) x)) := by
 by_cases h : errW x ns vs = 0
 . refine .inr ⟨h,?_⟩
   have hl := lawE_rep (lkP (ns.zip vs)) x (check_form (errW_zero h))
   refine ⟨hl,?_⟩
   rw [hl]
   by_cases hc : checkE (repE (lkP (ns.zip vs)) x) = 0
   . rw [replR_ok h hc,hc]
     exact ⟨rfl,fun h => absurd rfl h,fun _ => rfl⟩
   . rw [replR_last h hc]
     exact ⟨rfl,fun _ => rfl,fun h => absurd h hc⟩
 . exact .inl ⟨h,replR_bad rfl h⟩
def TwoAt (w : World) (bY bW : Nat) (y t : E) (cy ct : List Value) (wr : World) : Prop :=
 Below w.heap.size w wr /\ bY < wr.heap.size /\ bW < wr.heap.size /\ wr.rangeAt bY 0 cy /\ wr.rangeAt bW 0 ct /\ ExprC wr (fun _ => True) y cy /\ ExprC wr (fun _ => True) t ct
theorem TwoAt.keep {w : World} {bY bW : Nat} {y t : E} {cy ct : List Value} {wr W : World} (h : TwoAt w bY bW y t cy ct wr) (hb : Below wr.heap.size wr W) : TwoAt w bY bW y t cy ct W :=
 ⟨h.1.trans (hb.mono h.1.size),Nat.lt_of_lt_of_le h.2.1 hb.size,Nat.lt_of_lt_of_le h.2.2.1 hb.size,qaJ h.2.2.2.1 (hb.block _ h.2.1),qaJ h.2.2.2.2.1 (hb.block _ h.2.2.1),h.2.2.2.2.2.1.grow hb,h.2.2.2.2.2.2.grow hb⟩
set_option maxHeartbeats 8000000 in
set_option maxRecDepth 100000 in
theorem lawReplaces_c (x : E) (cs : List Value) (na : Option Addr) (nc : Nat) (va : Option Addr) (vc : Nat) (ns : List (List UInt8)) (vs : List E) (w : World) (hx : ExprC w (· < w.heap.size) x cs) (hok : okE x) (hn : StrsF w (· < w.heap.size) na ns) (hnl : ns.length <= maxLen) (hv : ArgsAt w (· < w.heap.size) va vs) (hvl : vs.length <= maxLen) (hvo : ∀ y,y ∈ vs -> okE y) (hp : Pows w) :
 Calls Tryz.prog 4 #[.agg cs.toArray,.slice na ns.length nc,.slice va vs.length vc] w fun e w' => e = .returned (.bool true) /\ Below w.heap.size w w' := by
 obtain ⟨k,nm,n,la,ll,lc,aa,al,ac,rfl⟩ := hx.shape
 have HX : Hid (∀ W,Below w.heap.size w W -> ExprC W (· < w.heap.size) x [.int .i64 k,.string nm,.int .i64 n,.slice la ll lc,.slice aa al ac]) := fun W hW => ExprC.mono (fun q hq _ => ⟨hq,hW.block q hq⟩) _ _ hx
 have HNS : Hid (∀ W,Below w.heap.size w W -> StrsF W (· < w.heap.size) na ns) := fun W hW => StrsF.mono hn (fun q hq _ => ⟨hq,hW.block q hq⟩)
 have HV : Hid (∀ W,Below w.heap.size w W -> ArgsAt W (· < w.heap.size) va vs) := fun W hW => ArgsAt.mono hv (fun q hq _ => ⟨hq,hW.block q hq⟩)
 have HP : Hid (∀ W,Below w.heap.size w W -> Pows W) := fun W hW => hp.keep hp.lt hW
 have HOK := Lib.hid hok
 have HVO := Lib.hid hvo
 have HS0 : Hid (WSt w [.int .i64 k,.string nm,.int .i64 n,.slice la ll lc,.slice aa al ac] (w.alloc (.cells #[.int .i64 k,.string nm,.int .i64 n,.slice la ll lc,.slice aa al ac] 25))) := ⟨(Below.refl _ _).alloc (Nat.le_refl _) _,heap_alloc_new _ _⟩
 have hm : maxLen = 9223372036854775807 := rfl
 rw [hm] at hnl hvl
 clear hx hn hv hok hvo hp hm
 go_enter Tryz.func4,Tryz.ntmps4
 go_upto_region 1 with fail
 generalize (w.alloc (.cells #[.int .i64 k,.string nm,.int .i64 n,.slice la ll lc,.slice aa al ac] 25)) = W0 at *
 go_wp2_with fail
 refine (alive_c W0 (HP.out W0 HS0.out.below)).mono ?_
 rintro e w1 ⟨rfl,hb1⟩
 have HS1 := Lib.hid (HS0.out.keep hb1)
 have HXR : Hid (w1.rangeAt w.heap.size 0 [.int .i64 k,.string nm,.int .i64 n,.slice la ll lc,.slice aa al ac]) := qaB HS1.out.box
 clear hb1 HS0
 go_wp2_with (refine wpList_load_mid rfl 25 (.tmp 3) rfl w.heap.size 0 rfl [.int .i64 k,.string nm,.int .i64 n,.slice la ll lc,.slice aa al ac] _ HXR.out Tryz.underlying25 rfl exprSize ?_)
 refine (small_c x [.int .i64 k,.string nm,.int .i64 n,.slice la ll lc,.slice aa al ac] (· < w.heap.size) 8 w1 (HX.out w1 HS1.out.below) HOK.out (by decide)).mono ?_
 rintro e w2 ⟨b,rfl,hb2,ht⟩
 have HS2 := Lib.hid (HS1.out.keep hb2)
 have HT := Lib.hid ht
 clear hb2 HXR HS1 ht HOK
 cases b
 . go_wp2_with fail
   go_ret
   exact ⟨rfl,HS2.out.below⟩
 have HOX : Hid (OkS x) := ⟨(HT.out rfl).2,(HT.out rfl).1⟩
 clear HT
 by_cases hn8 : ns.length <= 8
 . have hn9 : ¬ (8 : Int) < (ns.length : Int) := by omega
   by_cases hv8 : vs.length <= 8
   . have hv9 : ¬ (8 : Int) < (vs.length : Int) := by omega
     clear hnl hvl
     go_upto_region 6 with fail
     clear hn9 hv9
     go_loopg [30] vs.length (fun g v wr => RelSm w [.int .i64 k,.string nm,.int .i64 n,.slice la ll lc,.slice aa al ac] vs v g wr)
     case atStart => exact ⟨0,by omega,rfl,HS2.out,fun j y hj => by omega⟩
     case round =>
      obtain ⟨i,hig,rfl,hst,hgd⟩ := hrel
      have HST := Lib.hid hst
      have HGD := Lib.hid hgd
      clear hst hgd HS2
      by_cases hi : i < vs.length
      . obtain ⟨b,o,k2,nm2,n2,la2,ll2,lc2,ab2,al2,ac2,haa,hrg,hec⟩ := (HV.out wr HST.out.below).at_ hi
        have hba : Below wr.heap.size wr (wr.alloc (.cells #[.int .i64 k2,.string nm2,.int .i64 n2,.slice la2 ll2 lc2,.slice ab2 al2 ac2] 25)) := (Below.refl _ _).alloc (Nat.le_refl _) _
        have HSA := Lib.hid (HST.out.keep hba)
        have HCK := Lib.hid (small_c (vs[i]'hi) [.int .i64 k2,.string nm2,.int .i64 n2,.slice la2 ll2 lc2,.slice ab2 al2 ac2] _ 8 (wr.alloc (.cells #[.int .i64 k2,.string nm2,.int .i64 n2,.slice la2 ll2 lc2,.slice ab2 al2 ac2] 25)) (hec.grow hba) (HVO.out _ (List.getElem_mem hi)) (by decide))
        have HRG := Lib.hid hrg
        have HXN : Hid ((wr.alloc (.cells #[.int .i64 k2,.string nm2,.int .i64 n2,.slice la2 ll2 lc2,.slice ab2 al2 ac2] 25)).rangeAt wr.heap.size 0 [.int .i64 k2,.string nm2,.int .i64 n2,.slice la2 ll2 lc2,.slice ab2 al2 ac2]) := qaB (heap_alloc_new _ _)
        have j0 : (0 : Int) <= (i : Int) := by omega
        have j1 : (i : Int) < (vs.length : Int) := by omega
        have hw : IntKind.i64.wrap ((i : Int) + 1) = (i : Int) + 1 := IntWalk.i64_in _ (by omega)
        have HHI := Lib.hid hi
        subst haa
        clear hrg hec hba
        go_upto_region 8 with (first
         | (refine wpList_load_mid rfl 25 (.tmp 32) rfl b (o + i * 5) rfl [.int .i64 k2,.string nm2,.int .i64 n2,.slice la2 ll2 lc2,.slice ab2 al2 ac2] _ HRG.out Tryz.underlying25 rfl exprSize ?_)
         | (refine qaC rfl 25 (.tmp 8) (.tmp 33) rfl wr _ #[.int .i64 k2,.string nm2,.int .i64 n2,.slice la2 ll2 lc2,.slice ab2 al2 ac2] rfl rfl exprSize rfl (by simp [Value.oneCell']) ?_))
        generalize (wr.alloc (.cells #[.int .i64 k2,.string nm2,.int .i64 n2,.slice la2 ll2 lc2,.slice ab2 al2 ac2] 25)) = Wa at *
        go_wp2_with (refine wpList_load_mid rfl 25 (.tmp 8) rfl wr.heap.size 0 rfl [.int .i64 k2,.string nm2,.int .i64 n2,.slice la2 ll2 lc2,.slice ab2 al2 ac2] _ HXN.out Tryz.underlying25 rfl exprSize ?_)
        refine HCK.out.mono ?_
        rintro e w3 ⟨b3,rfl,hb3,ht3⟩
        have HS3 := Lib.hid (HSA.out.keep hb3)
        have HT3 := Lib.hid ht3
        clear hb3 HCK HXN HRG HSA HST ht3
        cases b3
        . go_wp2_with fail
          go_ret
          exact ⟨rfl,HS3.out.below⟩
        . have HNX : Hid (∀ j y,j < i + 1 -> vs[j]? = some y -> OkS y) := fun j y hj hy => by
           rcases Nat.lt_or_ge j i with h1 | h1
           . exact HGD.out j y h1 hy
           . obtain rfl : j = i := by omega
             rw [List.getElem?_eq_getElem HHI.out] at hy
             injection hy with hy
             rw [<- hy]
             exact ⟨(HT3.out rfl).2,(HT3.out rfl).1⟩
          clear HGD HT3
          go_wp2_with fail
          go_roundg (vs.length - (i + 1))
          case measure => omega
          case rel => exact ⟨i + 1,by omega,by go_num,HS3.out,HNX.out⟩
      . have j1 : ¬ (i : Int) < (vs.length : Int) := by omega
        have HOV : Hid (∀ y,y ∈ vs -> OkS y) := fun y hy => by
         obtain ⟨j,hj,e⟩ := List.getElem_of_mem hy
         exact HGD.out j y (by omega) (by rw [List.getElem?_eq_getElem hj,e])
        have HXR : Hid (wr.rangeAt w.heap.size 0 [.int .i64 k,.string nm,.int .i64 n,.slice la ll lc,.slice aa al ac]) := qaB HST.out.box
        have hww : ∀ q,q < w.heap.size -> q < wr.heap.size -> q < wr.heap.size /\ wr.heap[q]? = wr.heap[q]? := fun q _ h => ⟨h,rfl⟩
        have HC1 := Lib.hid (replaceN_c x [.int .i64 k,.string nm,.int .i64 n,.slice la ll lc,.slice aa al ac] na nc va vc ns vs wr (ExprC.mono hww _ _ (HX.out wr HST.out.below)) (StrsF.mono (HNS.out wr HST.out.below) hww) (ArgsAt.mono (HV.out wr HST.out.below) hww) (HP.out wr HST.out.below) HOX.out HOV.out hn8 hv8)
        clear hww HGD HVO hig
        have HRC := Lib.hid (replR_cases x ns vs)
        have HRB : Hid (lawE (lkP (ns.zip vs)) x = repE (lkP (ns.zip vs)) x -> sizeE (lawE (lkP (ns.zip vs)) x) <= 1000000000 /\ entE (lawE (lkP (ns.zip vs)) x) <= 1000000000) := fun h => by
         rw [h]
         exact rep_bounds (lkP_ok HOV.out) HOX.out
        have HC2 : Hid (∀ W,Below w.heap.size w W -> Calls Tryz.prog 11 #[.agg #[.int .i64 k,.string nm,.int .i64 n,.slice la ll lc,.slice aa al ac],.slice na ns.length nc,.slice va vs.length vc] W (LwPost w.heap.size W (lawE (lkP (ns.zip vs)) x))) := fun W hW =>
         replaced_c w.heap.size na nc va vc ns vs hn8 hv8 x [.int .i64 k,.string nm,.int .i64 n,.slice la ll lc,.slice aa al ac] W (HX.out W hW) (HNS.out W hW) (HV.out W hW) hW.size HOX.out.ok
        have HC3 : Hid (∀ W,Below w.heap.size w W -> Calls Tryz.prog 12 #[.agg #[.int .i64 k,.string nm,.int .i64 n,.slice la ll lc,.slice aa al ac],.slice na ns.length nc,.slice va vs.length vc] W fun e w' => e = .returned (.int .i64 (errW x ns vs)) /\ Below W.heap.size W w') := fun W hW =>
         wrong_c x [.int .i64 k,.string nm,.int .i64 n,.slice la ll lc,.slice aa al ac] na nc va vc ns vs w.heap.size W (HX.out W hW) (HNS.out W hW) (HV.out W hW) hW.size HOX.out HOV.out hn8 hv8
        generalize lawE (lkP (ns.zip vs)) x = want at *
        generalize repE (lkP (ns.zip vs)) x = rx at *
        generalize errW x ns vs = ew at *
        generalize hrr : replR x ns vs = rr at *
        clear hrr HX HNS HV HP HOX HOV
        go_wp2_with (refine wpList_load_mid rfl 25 (.tmp 3) rfl w.heap.size 0 rfl [.int .i64 k,.string nm,.int .i64 n,.slice la ll lc,.slice aa al ac] _ HXR.out Tryz.underlying25 rfl exprSize ?_)
        refine HC1.out.mono ?_
        rintro e w4 ⟨⟨csy,rfl,hcy⟩,hb4⟩
        obtain ⟨ky,ny,my,ly,lly,lcy,ay,aly,acy,rfl⟩ := hcy.shape
        have hba : Below w4.heap.size w4 (w4.alloc (.cells #[.int .i64 ky,.string ny,.int .i64 my,.slice ly lly lcy,.slice ay aly acy] 25)) := (Below.refl _ _).alloc (Nat.le_refl _) _
        have HS5 := Lib.hid ((HST.out.keep hb4).keep hba)
        have HY5 := Lib.hid (hcy.grow hba)
        have HYR : Hid ((w4.alloc (.cells #[.int .i64 ky,.string ny,.int .i64 my,.slice ly lly lcy,.slice ay aly acy] 25)).rangeAt w4.heap.size 0 [.int .i64 ky,.string ny,.int .i64 my,.slice ly lly lcy,.slice ay aly acy]) := qaB (heap_alloc_new _ _)
        have hys : w4.heap.size < (w4.alloc (.cells #[.int .i64 ky,.string ny,.int .i64 my,.slice ly lly lcy,.slice ay aly acy] 25)).heap.size := by simp
        have HYS := Lib.hid hys
        clear hcy hb4 hba HXR HC1 HST hys
        go_upto_region 12 with (refine qaC rfl 25 (.tmp 9) (.tmp 43) rfl w4 _ #[.int .i64 ky,.string ny,.int .i64 my,.slice ly lly lcy,.slice ay aly acy] rfl rfl exprSize rfl (by simp [Value.oneCell']) ?_)
        generalize (w4.alloc (.cells #[.int .i64 ky,.string ny,.int .i64 my,.slice ly lly lcy,.slice ay aly acy] 25)) = W5 at *
        generalize w4.heap.size = bY at *
        have HX5 : Hid (W5.rangeAt w.heap.size 0 [.int .i64 k,.string nm,.int .i64 n,.slice la ll lc,.slice aa al ac]) := qaB HS5.out.box
        go_wp2_with (refine wpList_load_mid rfl 25 (.tmp 3) rfl w.heap.size 0 rfl [.int .i64 k,.string nm,.int .i64 n,.slice la ll lc,.slice aa al ac] _ HX5.out Tryz.underlying25 rfl exprSize ?_)
        refine (HC2.out W5 HS5.out.below).mono ?_
        rintro e w6 ⟨⟨cst,rfl,hct⟩,hb6⟩
        obtain ⟨kt,nt,mt,lt,llt,lct,at_,alt,act,rfl⟩ := hct.shape
        have hba : Below w6.heap.size w6 (w6.alloc (.cells #[.int .i64 kt,.string nt,.int .i64 mt,.slice lt llt lct,.slice at_ alt act] 25)) := (Below.refl _ _).alloc (Nat.le_refl _) _
        have hbb : Below W5.heap.size W5 (w6.alloc (.cells #[.int .i64 kt,.string nt,.int .i64 mt,.slice lt llt lct,.slice at_ alt act] 25)) := hb6.trans (hba.mono hb6.size)
        have HS7 := Lib.hid (HS5.out.keep hbb)
        have HTW : Hid (TwoAt w bY w6.heap.size rr.2 want [.int .i64 ky,.string ny,.int .i64 my,.slice ly lly lcy,.slice ay aly acy] [.int .i64 kt,.string nt,.int .i64 mt,.slice lt llt lct,.slice at_ alt act] (w6.alloc (.cells #[.int .i64 kt,.string nt,.int .i64 mt,.slice lt llt lct,.slice at_ alt act] 25))) :=
         ⟨HS7.out.below,Nat.lt_of_lt_of_le HYS.out hbb.size,by simp,qaJ HYR.out (hbb.block _ HYS.out),qaB (heap_alloc_new _ _),HY5.out.grow hbb,ExprC.mono (fun q _ hl => ⟨trivial,hba.block q hl⟩) _ _ hct⟩
        clear hct hb6 hba hbb HX5 HC2 HS5 HY5 HYR HYS
        go_upto_region 13 with (refine qaC rfl 25 (.tmp 11) (.tmp 48) rfl w6 _ #[.int .i64 kt,.string nt,.int .i64 mt,.slice lt llt lct,.slice at_ alt act] rfl rfl exprSize rfl (by simp [Value.oneCell']) ?_)
        generalize (w6.alloc (.cells #[.int .i64 kt,.string nt,.int .i64 mt,.slice lt llt lct,.slice at_ alt act] 25)) = W7 at *
        generalize w6.heap.size = bW at *
        have HX7 : Hid (W7.rangeAt w.heap.size 0 [.int .i64 k,.string nm,.int .i64 n,.slice la ll lc,.slice aa al ac]) := qaB HS7.out.box
        go_wp2_with (refine wpList_load_mid rfl 25 (.tmp 3) rfl w.heap.size 0 rfl [.int .i64 k,.string nm,.int .i64 n,.slice la ll lc,.slice aa al ac] _ HX7.out Tryz.underlying25 rfl exprSize ?_)
        refine (HC3.out W7 HS7.out.below).mono ?_
        rintro e w8 ⟨rfl,hb8⟩
        have HT8 := Lib.hid (HTW.out.keep hb8)
        clear hb8 HX7 HC3 HS7 HTW
        rcases HRC.out with ⟨he,hr⟩ | ⟨he,hl,hr1,hr2,hr3⟩
        . have h1 : (ew == 0) = false := beq_false_of_ne he
          have h2 : (ew != 0) = true := bne_iff_ne.2 he
          have h3 : rr.1 = ew := by rw [hr]
          have h4 : (ew == ew) = true := beq_self_eq_true _
          have hz : rr.2 = zeroE := by rw [hr]
          have HYR : Hid (w8.rangeAt bY 0 [.int .i64 ky,.string ny,.int .i64 my,.slice ly lly lcy,.slice ay aly acy]) := HT8.out.2.2.2.1
          have hy := HT8.out.2.2.2.2.2.1
          rw [hz] at hy
          have HSM := Lib.hid (same_c zeroE [.int .i64 ky,.string ny,.int .i64 my,.slice ly lly lcy,.slice ay aly acy] [.int .i64 0,.string ⟨#[]⟩,.int .i64 0,.slice none 0 0,.slice none 0 0] _ _ w8 hy (qdB w8 (fun _ => True)) (by decide) (by decide))
          rw [h3]
          clear HRC hr hz hy h3
          have y0 : w8.cell? ⟨bY,0,none⟩ = some (.int .i64 ky) := HYR.out 0 _ rfl
          have y1 : w8.cell? ⟨bY,1,none⟩ = some (.string ny) := HYR.out 1 _ rfl
          have y2 : w8.cell? ⟨bY,2,none⟩ = some (.int .i64 my) := HYR.out 2 _ rfl
          have y3 : w8.cell? ⟨bY,3,none⟩ = some (.slice ly lly lcy) := HYR.out 3 _ rfl
          have y4 : w8.cell? ⟨bY,4,none⟩ = some (.slice ay aly acy) := HYR.out 4 _ rfl
          go_wp2_with fail
          refine HSM.out.mono ?_
          rintro e w9 ⟨rfl,hb9⟩
          have HB9 := Lib.hid (HT8.out.1.trans (hb9.mono HT8.out.1.size))
          clear hb9 HSM HYR
          go_wp2_with fail
          go_ret
          exact ⟨rfl,HB9.out⟩
        . subst he
          have HBD := Lib.hid (HRB.out hl)
          have HWR : Hid (w8.rangeAt bW 0 [.int .i64 kt,.string nt,.int .i64 mt,.slice lt llt lct,.slice at_ alt act]) := HT8.out.2.2.2.2.1
          have HCK := Lib.hid (rcheck_c want [.int .i64 kt,.string nt,.int .i64 mt,.slice lt llt lct,.slice at_ alt act] _ w8 HT8.out.2.2.2.2.2.2 HBD.out.1 (by have := HBD.out.2;omega))
          have HR2 := Lib.hid hr2
          have HR3 := Lib.hid hr3
          have HR1 := Lib.hid hr1
          clear HRC hr1 hr2 hr3 HRB hl
          go_wp2_with (refine wpList_load_mid rfl 25 (.tmp 11) rfl bW 0 rfl [.int .i64 kt,.string nt,.int .i64 mt,.slice lt llt lct,.slice at_ alt act] _ HWR.out Tryz.underlying25 rfl exprSize ?_)
          refine HCK.out.mono ?_
          rintro e w9 ⟨rfl,hb9⟩
          have HT9 := Lib.hid (HT8.out.keep hb9)
          have HYR : Hid (w9.rangeAt bY 0 [.int .i64 ky,.string ny,.int .i64 my,.slice ly lly lcy,.slice ay aly acy]) := HT9.out.2.2.2.1
          have HWR9 : Hid (w9.rangeAt bW 0 [.int .i64 kt,.string nt,.int .i64 mt,.slice lt llt lct,.slice at_ alt act]) := HT9.out.2.2.2.2.1
          have h1 := HR1.out
          rw [h1]
          clear h1 hb9 HCK HWR HT8
          by_cases hck : checkE want = 0
          . have hy := HT9.out.2.2.2.2.2.1
            rw [HR3.out hck] at hy
            have HSM := Lib.hid (same_c want [.int .i64 ky,.string ny,.int .i64 my,.slice ly lly lcy,.slice ay aly acy] [.int .i64 kt,.string nt,.int .i64 mt,.slice lt llt lct,.slice at_ alt act] _ _ w9 hy HT9.out.2.2.2.2.2.2 HBD.out.1 HBD.out.2)
            rw [hck]
            clear hck hy HR1 HR2 HR3
            have y0 : w9.cell? ⟨bY,0,none⟩ = some (.int .i64 ky) := HYR.out 0 _ rfl
            have y1 : w9.cell? ⟨bY,1,none⟩ = some (.string ny) := HYR.out 1 _ rfl
            have y2 : w9.cell? ⟨bY,2,none⟩ = some (.int .i64 my) := HYR.out 2 _ rfl
            have y3 : w9.cell? ⟨bY,3,none⟩ = some (.slice ly lly lcy) := HYR.out 3 _ rfl
            have y4 : w9.cell? ⟨bY,4,none⟩ = some (.slice ay aly acy) := HYR.out 4 _ rfl
            have z0 : w9.cell? ⟨bW,0,none⟩ = some (.int .i64 kt) := HWR9.out 0 _ rfl
            have z1 : w9.cell? ⟨bW,1,none⟩ = some (.string nt) := HWR9.out 1 _ rfl
            have z2 : w9.cell? ⟨bW,2,none⟩ = some (.int .i64 mt) := HWR9.out 2 _ rfl
            have z3 : w9.cell? ⟨bW,3,none⟩ = some (.slice lt llt lct) := HWR9.out 3 _ rfl
            have z4 : w9.cell? ⟨bW,4,none⟩ = some (.slice at_ alt act) := HWR9.out 4 _ rfl
            go_wp2_with fail
            refine HSM.out.mono ?_
            rintro e w10 ⟨rfl,hb10⟩
            have HB10 := Lib.hid (HT9.out.1.trans (hb10.mono HT9.out.1.size))
            clear hb10 HSM HYR HWR9
            go_wp2_with fail
            go_ret
            exact ⟨rfl,HB10.out⟩
          . have hy := HT9.out.2.2.2.2.2.1
            rw [HR2.out hck] at hy
            have HSM := Lib.hid (same_c zeroE [.int .i64 ky,.string ny,.int .i64 my,.slice ly lly lcy,.slice ay aly acy] [.int .i64 0,.string ⟨#[]⟩,.int .i64 0,.slice none 0 0,.slice none 0 0] _ _ w9 hy (qdB w9 (fun _ => True)) (by decide) (by decide))
            have hn0 : (((checkE want : Nat) : Int) != 0) = true := by simpa using hck
            clear hy HR1 HR2 HR3
            generalize checkE want = ke at *
            have y0 : w9.cell? ⟨bY,0,none⟩ = some (.int .i64 ky) := HYR.out 0 _ rfl
            have y1 : w9.cell? ⟨bY,1,none⟩ = some (.string ny) := HYR.out 1 _ rfl
            have y2 : w9.cell? ⟨bY,2,none⟩ = some (.int .i64 my) := HYR.out 2 _ rfl
            have y3 : w9.cell? ⟨bY,3,none⟩ = some (.slice ly lly lcy) := HYR.out 3 _ rfl
            have y4 : w9.cell? ⟨bY,4,none⟩ = some (.slice ay aly acy) := HYR.out 4 _ rfl
            go_wp2_with fail
            refine HSM.out.mono ?_
            rintro e w10 ⟨rfl,hb10⟩
            have HB10 := Lib.hid (HT9.out.1.trans (hb10.mono HT9.out.1.size))
            clear hb10 HSM HYR HWR9
            go_wp2_with fail
            go_ret
            exact ⟨rfl,HB10.out⟩
   . have hv9 : (8 : Int) < (vs.length : Int) := by omega
     go_wp2_with fail
     go_ret
     exact ⟨rfl,HS2.out.below⟩
 . have hn9 : (8 : Int) < (ns.length : Int) := by omega
   go_wp2_with fail
   go_ret
   exact ⟨rfl,HS2.out.below⟩
end Go.Proofs.YtaddcadapbpkfaaGreatDoor
