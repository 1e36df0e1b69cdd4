/-
 The law's wrong: the walk.
-/
import Derived.Test.YtaddcadapbpkfaaGreatDoorR44
import Derived.Test.YtaddcadapbpkfaaGreatDoorR07
namespace Go.Proofs.YtaddcadapbpkfaaGreatDoor
open Go.RowKit Pln
structure WSt (w : World) (cx : List Value) (wr : World) : Prop where
 below : Below w.heap.size w wr
 box : wr.heap[w.heap.size]? = some (.cells cx.toArray 25 (0,0))
theorem WSt.keep {w : World} {cx : List Value} {wr W : World} (h : WSt w cx wr) (hb : Below wr.heap.size wr W) : WSt w cx W := by
 have hz : w.heap.size < wr.heap.size := (Array.getElem?_eq_some_iff.1 h.box).1
 exact ⟨h.below.trans (hb.mono (by omega)),(hb.block _ hz).trans h.box⟩
def RelWo (w : World) (cx : List Value) (ns : List (List UInt8)) (v20 : Value) (g : Nat) (wr : World) : Prop :=
 ∃ i,i + g = ns.length /\ v20 = .int .i64 i /\ WSt w cx wr /\ (ns.take i).Nodup
def RelWi (w : World) (cx : List Value) (ns : List (List UInt8)) (i : Nat) (nm : List UInt8) (v24 : Value) (g : Nat) (wr : World) : Prop :=
 ∃ j,j + g = i /\ v24 = .int .i64 j /\ WSt w cx wr /\ ∀ l,l < j -> ns[l]? ≠ some nm
def RelWc (w : World) (cx : List Value) (x : E) (vs : List E) (v45 : Value) (g : Nat) (wr : World) : Prop :=
 ∃ i,i + g = vs.length /\ v45 = .int .i64 i /\ WSt w cx wr /\ ∀ j y,j < i + 1 -> (x :: vs)[j]? = some y -> checkE y = 0
theorem nodup_step {ns : List (List UInt8)} {i : Nat} (hi : i < ns.length) (h : (ns.take i).Nodup) (hn : ∀ l,l < i -> ns[l]? ≠ some ns[i]) : (ns.take (i + 1)).Nodup := by
 rw [qaV (List.getElem?_eq_getElem hi),List.nodup_append]
 refine ⟨h,by simp,fun a ha b hb e => ?_⟩
 simp at hb
 subst hb
 subst e
 obtain ⟨j,hj,e⟩ := List.getElem_of_mem ha
 have hj2 : j < i := by simp at hj;omega
 rw [List.getElem_take] at e
 exact hn j hj2 (by rw [List.getElem?_eq_getElem (by omega),e])
theorem dup_at {ns : List (List UInt8)} {i j : Nat} (hi : i < ns.length) (hj : j < i) (e : ns[i] = ns[j]) : ¬ ns.Nodup := fun hn =>
 List.pairwise_iff_getElem.1 hn j i (by omega) hi hj e.symm
theorem ret_eq {a b : Int} (h : a = b) : Ending.returned (.int .i64 b) = Ending.returned (.int .i64 a) := by rw [h]
theorem errW_len {x : E} {ns : List (List UInt8)} {vs : List E} (h : ns.length ≠ vs.length) : errW x ns vs = 3 := if_neg h
theorem errW_dup {x : E} {ns : List (List UInt8)} {vs : List E} (h : ns.length = vs.length) (hd : ¬ ns.Nodup) : errW x ns vs = 18 := (if_pos h).trans (if_neg hd)
set_option maxHeartbeats 8000000 in
set_option maxRecDepth 100000 in
theorem wrong_c (x : E) (cx : List Value) (na : Option Addr) (nc : Nat) (va : Option Addr) (vc : Nat) (ns : List (List UInt8)) (vs : List E) (B : Nat) (w : World) (hx : ExprC w (· < B) x cx) (hn : StrsF w (· < B) na ns) (hv : ArgsAt w (· < B) va vs) (hB : B <= w.heap.size) (okx : OkS x) (okv : ∀ y,y ∈ vs -> OkS y) (hnl : ns.length <= 8) (hvl : vs.length <= 8) :
 Calls Tryz.prog 12 #[.agg cx.toArray,.slice na ns.length nc,.slice va vs.length vc] w fun e w' => e = .returned (.int .i64 (errW x ns vs)) /\ Below w.heap.size w w' := by
 obtain ⟨k,nm,n,la,ll,lc,aa,al,ac,rfl⟩ := hx.shape
 have HX : Hid (∀ W,Below w.heap.size w W -> ExprC W (· < B) x [.int .i64 k,.string nm,.int .i64 n,.slice la ll lc,.slice aa al ac]) := fun W hW => ExprC.mono (fun q hq _ => ⟨hq,hW.block q (Nat.lt_of_lt_of_le hq hB)⟩) _ _ hx
 have HNS : Hid (∀ W,Below w.heap.size w W -> StrsF W (· < B) na ns) := fun W hW => StrsF.mono hn (fun q hq _ => ⟨hq,hW.block q (Nat.lt_of_lt_of_le hq hB)⟩)
 have HV : Hid (∀ W,Below w.heap.size w W -> ArgsAt W (· < B) va vs) := fun W hW => ArgsAt.mono hv (fun q hq _ => ⟨hq,hW.block q (Nat.lt_of_lt_of_le hq hB)⟩)
 have HOX := Lib.hid okx
 have HOV := Lib.hid okv
 have HS0 : Hid (WSt w [.int .i64 k,.string nm,.int .i64 n,.slice la ll lc,.slice aa al ac] (w.alloc (.cells #[.int .i64 k,.string nm,.int .i64 n,.slice la ll lc,.slice aa al ac] 25))) := ⟨(Below.refl _ _).alloc (Nat.le_refl _) _,heap_alloc_new _ _⟩
 clear hx hn hv okx okv
 go_enter Tryz.func12,Tryz.ntmps12
 go_upto_region 1 with fail
 generalize (w.alloc (.cells #[.int .i64 k,.string nm,.int .i64 n,.slice la ll lc,.slice aa al ac] 25)) = W0 at *
 by_cases hlen : ns.length = vs.length
 . have hne : ((ns.length : Int) != (vs.length : Int)) = false := by simp [hlen]
   have HLEN := Lib.hid hlen
   clear hlen
   go_upto_region 4 with fail
   clear hne
   go_loopg [20] ns.length (fun g v wr => RelWo w [.int .i64 k,.string nm,.int .i64 n,.slice la ll lc,.slice aa al ac] ns v g wr)
   case atStart => exact ⟨0,by omega,rfl,HS0.out,by simp⟩
   case round =>
    obtain ⟨i,hig,rfl,hst,hnd⟩ := hrel
    have HST := Lib.hid hst
    have HND := Lib.hid hnd
    clear hst hnd HS0
    by_cases hi : i < ns.length
    . have k1 : (i : Int) < (ns.length : Int) := by omega
      have hw : IntKind.i64.wrap ((i : Int) + 1) = (i : Int) + 1 := IntWalk.i64_in _ (by omega)
      have HIG := Lib.hid hig
      clear hig
      go_upto_region 7 with fail
      obtain ⟨wo,rfl⟩ : ∃ w',w' = wr := ⟨_,rfl⟩
      go_loopg [24] i (fun g v wr => RelWi w [.int .i64 k,.string nm,.int .i64 n,.slice la ll lc,.slice aa al ac] ns i (ns[i]'hi) v g wr)
      case atStart => exact ⟨0,by omega,rfl,HST.out,fun l hl => by omega⟩
      case round =>
       obtain ⟨j,hjg,rfl,hst,hno⟩ := hrel
       have HSI := Lib.hid hst
       have HNO := Lib.hid hno
       clear hst hno
       by_cases hj : j < i
       . obtain ⟨nb,no,hna,hnb,hnc⟩ := HNS.out wr HSI.out.below (by omega)
         have hc1 : wr.cell? ⟨nb,no + i,none⟩ = some (.string ⟨(ns[i]'hi).toArray⟩) := hnc i _ (List.getElem?_eq_getElem hi)
         have hjn : j < ns.length := by omega
         have hc2 : wr.cell? ⟨nb,no + j,none⟩ = some (.string ⟨(ns[j]'hjn).toArray⟩) := hnc j _ (List.getElem?_eq_getElem hjn)
         have j0 : (0 : Int) <= (j : Int) := by omega
         have j1 : (j : Int) < (ns.length : Int) := by omega
         have j2 : (j : Int) < (i : Int) := by omega
         have i0 : (0 : Int) <= (i : Int) := by omega
         have hw2 : IntKind.i64.wrap ((j : Int) + 1) = (j : Int) + 1 := IntWalk.i64_in _ (by omega)
         subst hna
         clear hnc
         by_cases he : ns[i]'hi = ns[j]'hjn
         . have HR : Hid (errW x ns vs = 18) := errW_dup HLEN.out (dup_at hi hj he)
           have hq : (ns[i]'hi == ns[j]'hjn) = true := beq_iff_eq.2 he
           go_upto_region 9 with fail
           go_quiet (fail)
           go_wp2_with fail
           go_ret
           exact ⟨ret_eq HR.out,HSI.out.below.trans (qaK (Below.refl _ _) _)⟩
         . have hq : (ns[i]'hi == ns[j]'hjn) = false := beq_false_of_ne he
           have HNX : Hid (∀ l,l < j + 1 -> ns[l]? ≠ some (ns[i]'hi)) := fun l hl e => by
            rcases Nat.lt_or_ge l j with h1 | h1
            . exact HNO.out l h1 e
            . obtain rfl : l = j := by omega
              rw [List.getElem?_eq_getElem hjn] at e
              injection e with e
              exact he e.symm
           go_upto_region 9 with fail
           go_quiet (fail)
           go_wp2_with fail
           go_roundg (i - (j + 1))
           case measure => omega
           case rel => exact ⟨j + 1,by omega,by go_num,HSI.out.keep (qaK (Below.refl _ _) _),HNX.out⟩
       . have hjn : ¬ (j : Int) < (i : Int) := by omega
         have hje : j = i := by omega
         have HNX : Hid ((ns.take (i + 1)).Nodup) := nodup_step hi HND.out (fun l hl => HNO.out l (by omega))
         go_wp2_with fail
         go_roundg (ns.length - (i + 1))
         case measure => have := HIG.out;omega
         case rel => exact ⟨i + 1,by have := HIG.out;omega,by go_num,HSI.out,HNX.out⟩
    . have k1 : ¬ (i : Int) < (ns.length : Int) := by omega
      have hie : i = ns.length := by omega
      have hn0 := HND.out
      rw [hie,List.take_length] at hn0
      have HN0 := Lib.hid hn0
      have HXR : Hid (wr.rangeAt w.heap.size 0 [.int .i64 k,.string nm,.int .i64 n,.slice la ll lc,.slice aa al ac]) := qaB HST.out.box
      have HCK := Lib.hid (rcheck_c x [.int .i64 k,.string nm,.int .i64 n,.slice la ll lc,.slice aa al ac] _ wr (HX.out wr HST.out.below) (ok_bounds HOX.out).1 (by have := (ok_bounds HOX.out).2;omega))
      clear hn0 hig hie HND
      go_wp2_with (refine wpList_load_mid rfl 25 (.tmp 3) rfl w.heap.size 0 rfl [.int .i64 k,.string nm,.int .i64 n,.slice la ll lc,.slice aa al ac] _ HXR.out Tryz.underlying25 rfl exprSize ?_)
      refine HCK.out.mono ?_
      rintro e w2 ⟨rfl,hb2⟩
      have HS2 := Lib.hid (HST.out.keep hb2)
      clear hb2 HCK HXR HST
      by_cases hck : checkE x = 0
      . have HG0 : Hid (∀ j y,j < 0 + 1 -> (x :: vs)[j]? = some y -> checkE y = 0) := fun j y hj hy => by
         obtain rfl : j = 0 := by omega
         simp at hy
         rw [<- hy]
         exact hck
        rw [hck]
        clear hck
        go_upto_region 17 with fail
        go_loopg [45] vs.length (fun g v wr => RelWc w [.int .i64 k,.string nm,.int .i64 n,.slice la ll lc,.slice aa al ac] x vs v g wr)
        case atStart => exact ⟨0,by omega,rfl,HS2.out,HG0.out⟩
        case round =>
         obtain ⟨j,hjg,rfl,hst,hgd⟩ := hrel
         have HST := Lib.hid hst
         have HGD := Lib.hid hgd
         clear hst hgd HG0 HS2
         by_cases hj : j < vs.length
         . obtain ⟨b,o,k2,nm2,n2,la2,ll2,lc2,ab2,al2,ac2,haa,hrg,hec⟩ := (HV.out wr HST.out.below).at_ hj
           have hba : Below wr.heap.size wr (wr.alloc (.cells #[.int .i64 k2,.string nm2,.int .i64 n2,.slice la2 ll2 lc2,.slice ab2 al2 ac2] 25)) := (Below.refl _ _).alloc (Nat.le_refl _) _
           have HSA := Lib.hid (HST.out.keep hba)
           have hos : OkS (vs[j]'hj) := HOV.out _ (List.getElem_mem hj)
           have HCK := Lib.hid (rcheck_c (vs[j]'hj) [.int .i64 k2,.string nm2,.int .i64 n2,.slice la2 ll2 lc2,.slice ab2 al2 ac2] _ (wr.alloc (.cells #[.int .i64 k2,.string nm2,.int .i64 n2,.slice la2 ll2 lc2,.slice ab2 al2 ac2] 25)) (hec.grow hba) (ok_bounds hos).1 (by have := (ok_bounds hos).2;omega))
           have HRG := Lib.hid hrg
           have HXN : Hid ((wr.alloc (.cells #[.int .i64 k2,.string nm2,.int .i64 n2,.slice la2 ll2 lc2,.slice ab2 al2 ac2] 25)).rangeAt wr.heap.size 0 [.int .i64 k2,.string nm2,.int .i64 n2,.slice la2 ll2 lc2,.slice ab2 al2 ac2]) := qaB (heap_alloc_new _ _)
           have hj' : j + 1 < (x :: vs).length := Nat.succ_lt_succ hj
           have hat : (x :: vs)[j + 1]'hj' = vs[j]'hj := rfl
           have j0 : (0 : Int) <= (j : Int) := by omega
           have j1 : (j : Int) < (vs.length : Int) := by omega
           have hw : IntKind.i64.wrap ((j : Int) + 1) = (j : Int) + 1 := IntWalk.i64_in _ (by omega)
           subst haa
           have HR : Hid (checkE (vs[j]'hj) ≠ 0 -> errW x ns vs = ((checkE (vs[j]'hj) : Nat) : Int)) := fun h => errW_at HLEN.out HN0.out hj' HGD.out h
           have HNX : Hid (checkE (vs[j]'hj) = 0 -> ∀ l y,l < j + 1 + 1 -> (x :: vs)[l]? = some y -> checkE y = 0) := fun h l y hl hy => by
            rcases Nat.lt_or_ge l (j + 1) with h1 | h1
            . exact HGD.out l y h1 hy
            . obtain rfl : l = j + 1 := by omega
              rw [List.getElem?_eq_getElem hj'] at hy
              injection hy with hy
              rw [<- hy]
              exact h
           clear hrg hec hba hos hat HGD
           go_upto_region 19 with (first
            | (refine wpList_load_mid rfl 25 (.tmp 47) rfl b (o + j * 5) rfl [.int .i64 k2,.string nm2,.int .i64 n2,.slice la2 ll2 lc2,.slice ab2 al2 ac2] _ HRG.out Tryz.underlying25 rfl exprSize ?_)
            | (refine qaC rfl 25 (.tmp 11) (.tmp 48) rfl wr _ #[.int .i64 k2,.string nm2,.int .i64 n2,.slice la2 ll2 lc2,.slice ab2 al2 ac2] rfl rfl exprSize rfl (by simp [Value.oneCell']) ?_))
           generalize (wr.alloc (.cells #[.int .i64 k2,.string nm2,.int .i64 n2,.slice la2 ll2 lc2,.slice ab2 al2 ac2] 25)) = Wa at *
           go_wp2_with (refine wpList_load_mid rfl 25 (.tmp 11) rfl wr.heap.size 0 rfl [.int .i64 k2,.string nm2,.int .i64 n2,.slice la2 ll2 lc2,.slice ab2 al2 ac2] _ HXN.out Tryz.underlying25 rfl exprSize ?_)
           refine HCK.out.mono ?_
           rintro e w3 ⟨rfl,hb3⟩
           have HS3 := Lib.hid (HSA.out.keep hb3)
           clear hb3 HCK HXN HRG HSA HST
           by_cases hck : checkE (vs[j]'hj) = 0
           . have HN := Lib.hid (HNX.out hck)
             rw [hck]
             clear hck HR HNX
             go_wp2_with fail
             go_roundg (vs.length - (j + 1))
             case measure => omega
             case rel => exact ⟨j + 1,by omega,by go_num,HS3.out,HN.out⟩
           . have HR2 := Lib.hid (HR.out hck)
             have hn0 : (((checkE (vs[j]'hj) : Nat) : Int) != 0) = true := by simpa using hck
             clear HR HNX
             generalize checkE (vs[j]'hj) = ke at *
             go_wp2_with fail
             go_ret
             exact ⟨ret_eq HR2.out,HS3.out.below⟩
         . have j1 : ¬ (j : Int) < (vs.length : Int) := by omega
           have HR : Hid (errW x ns vs = 0) := errW_all HLEN.out HN0.out (fun l y hl hy => HGD.out l y (by simp at hl;omega) hy)
           go_wp2_with fail
           go_ret
           exact ⟨ret_eq HR.out,HST.out.below⟩
      . have HR : Hid (errW x ns vs = ((checkE x : Nat) : Int)) := errW_at (i := 0) HLEN.out HN0.out (Nat.succ_pos _) (fun j y hj => by omega) hck
        have hn0 : (((checkE x : Nat) : Int) != 0) = true := by simpa using hck
        generalize checkE x = ke at *
        go_wp2_with fail
        go_ret
        exact ⟨ret_eq HR.out,HS2.out.below⟩
 . have hne : ((ns.length : Int) != (vs.length : Int)) = true := by simpa using (fun h => hlen (by omega))
   have HR : Hid (errW x ns vs = 3) := errW_len hlen
   go_wp2_with fail
   go_ret
   exact ⟨ret_eq HR.out,HS0.out.below⟩
end Go.Proofs.YtaddcadapbpkfaaGreatDoor
