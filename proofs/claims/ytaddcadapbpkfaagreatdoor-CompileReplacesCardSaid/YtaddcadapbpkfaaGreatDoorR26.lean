/-
 compile: the row of a call. compile: the row of what is no call of a known name. compile: the row of any expression. compile: an argument's meaning.
-/
import Derived.WalkSpells
import Derived.Test.YtaddcadapbpkfaaGreatDoorR22
import Derived.Test.YtaddcadapbpkfaaGreatDoorR25
namespace Go.Proofs.YtaddcadapbpkfaaGreatDoor
open Go.RowKit Pln
def rowOut (rl : List (ByteArray × Value × Value)) (nilB isF : Bool) (n : Nat) : Except Int (ByteArray × Value × Value) :=
 if isF = nilB then match rl.find? fun r => decide (r.1.size = n) with
  | none => .error 16
  | some r => .ok r
 else .error 17
def RowOutPost (w : World) (r : Except Int (ByteArray × Value × Value)) (e : Ending) (w' : World) : Prop :=
 (match r with
   | .error k => e = .returned (.tuple #[.agg #[.string ⟨#[]⟩,.nilFunc,.nilFunc],.int .i64 k])
   | .ok v => e = .returned (.tuple #[.agg #[.string v.1,v.2.1,v.2.2],.int .i64 0])) /\ Below w.heap.size w w'
structure BoxR (w : World) (m : Value) (cs : List Value) (W : World) : Prop where
 bx : Bx w [([m],71),(cs,25),([.string ⟨#[]⟩,.nilFunc,.nilFunc],90)] W
def RelRw (w : World) (m : Value) (cs : List Value) (rl : List (ByteArray × Value × Value)) (n : Nat) (v46 : Value) (g : Nat) (wr : World) : Prop :=
 ∃ i : Nat,i + g = rl.length /\ v46 = .int .i64 i /\ (∀ j r,j < i -> rl[j]? = some r -> r.1.size ≠ n) /\ BoxR w m cs wr
theorem find_at {rl : List (ByteArray × Value × Value)} {n i : Nat} {r : ByteArray × Value × Value} (h : ∀ j r,j < i -> rl[j]? = some r -> r.1.size ≠ n) (hi : rl[i]? = some r) (hr : r.1.size = n) : rl.find? (fun r => decide (r.1.size = n)) = some r := by
 rw [List.find?_eq_some_iff_getElem]
 obtain ⟨hl,e⟩ := List.getElem?_eq_some_iff.1 hi
 refine ⟨by simpa using hr,i,hl,e,fun j hj => ?_⟩
 have := h j _ hj (List.getElem?_eq_getElem (by omega))
 simpa using this
theorem find_no {rl : List (ByteArray × Value × Value)} {n : Nat} (h : ∀ j r,j < rl.length -> rl[j]? = some r -> r.1.size ≠ n) : rl.find? (fun r => decide (r.1.size = n)) = none := by
 rw [List.find?_eq_none]
 intro x hx
 obtain ⟨j,hj,rfl⟩ := List.mem_iff_getElem.1 hx
 simpa using h j _ hj (List.getElem?_eq_getElem hj)
set_option maxHeartbeats 4000000 in
set_option maxRecDepth 100000 in
theorem row_call_c (tb b c : Nat) (rl : List (ByteArray × Value × Value)) (nilB isF : Bool) (M : List (ByteArray × Value)) (nm : List UInt8) (n : Int) (la : Option Addr) (ll lc : Nat) (aa : Option Addr) (al ac : Nat) (w : World) (hM : MapL w tb M)
 (hlk : lookL M ⟨nm.toArray⟩ = some (.slice (some ⟨b,0,none⟩) rl.length c)) (hr : ∀ i r,rl[i]? = some r -> w.rangeAt b (i * 3) [.string r.1,r.2.1,r.2.2] /\ r.2.1.oneCell' = true /\ r.2.2.oneCell' = true) (hl1 : 0 < rl.length) (hl2 : rl.length <= 2)
 (hlow : ∀ r,rl[0]? = some r -> ∀ w,(binOp .eql 88 r.2.2 .nilFunc).run Tryz.prog w = .ok (.bool nilB) w /\ (eqGuard .eql 88 (.tmp 39) (.const .nilFunc) r.2.2 .nilFunc).run Tryz.prog w = .ok () w) :
 Calls Tryz.prog 54 #[.agg #[.map (some tb)],.agg #[.int .i64 3,.string ⟨nm.toArray⟩,.int .i64 n,.slice la ll lc,.slice aa al ac],.bool isF] w (RowOutPost w (rowOut rl nilB isF al)) := by
 have HB : Hid (BoxR w (.map (some tb)) [.int .i64 3,.string ⟨nm.toArray⟩,.int .i64 n,.slice la ll lc,.slice aa al ac] (((w.alloc (.cells #[.map (some tb)] 71)).alloc (.cells #[.int .i64 3,.string ⟨nm.toArray⟩,.int .i64 n,.slice la ll lc,.slice aa al ac] 25)).alloc (.cells #[.string ⟨#[]⟩,.nilFunc,.nilFunc] 90))) := ⟨bx3 w _ _ _ _ _ _⟩
 obtain ⟨r0,hr0⟩ : ∃ r0,rl[0]? = some r0 := ⟨rl[0],List.getElem?_eq_getElem hl1⟩
 have hlw := fun w => (hlow r0 hr0 w).1
 have hlg := fun w => (hlow r0 hr0 w).2
 have HM := Lib.hid (hM.keep (HB.out.bx.below.block _ hM.lt))
 have HR : Hid (∀ i r,rl[i]? = some r -> (((w.alloc (.cells #[.map (some tb)] 71)).alloc (.cells #[.int .i64 3,.string ⟨nm.toArray⟩,.int .i64 n,.slice la ll lc,.slice aa al ac] 25)).alloc (.cells #[.string ⟨#[]⟩,.nilFunc,.nilFunc] 90)).rangeAt b (i * 3) [.string r.1,r.2.1,r.2.2] /\ r.2.1.oneCell' = true /\ r.2.2.oneCell' = true) := fun i r h => by
  obtain ⟨h1,h2⟩ := hr i r h
  exact ⟨fun j u hu => (HB.out.bx.below.cell (p := ⟨b,i * 3 + j,none⟩) (World.block_lt_of_cell? w _ (h1 j u hu))).trans (h1 j u hu),h2⟩
 have HRW := Lib.hid hr
 have HLK := Lib.hid hlk
 have HR00 := Lib.hid hr0
 clear hr hlow hM hlk hr0
 go_enter Tryz.func54,Tryz.ntmps54
 go_upto_region 1 with fail
 generalize ((w.alloc (.cells #[.map (some tb)] 71)).alloc (.cells #[.int .i64 3,.string ⟨nm.toArray⟩,.int .i64 n,.slice la ll lc,.slice aa al ac] 25)).alloc (.cells #[.string ⟨#[]⟩,.nilFunc,.nilFunc] 90) = W at *
 have a0 : W.cell? ⟨w.heap.size,0,none⟩ = some (.map (some tb)) := cell_of_one (HB.out.bx.at_ (i := 0) rfl)
 obtain ⟨b0,b1,b2,b3,b4⟩ := cells5 (HB.out.bx.at_ (i := 1) rfl)
 have hz := (HR.out 0 r0 HR00.out).1 2 _ rfl
 have hz : W.cell? ⟨b,2,none⟩ = some r0.2.2 := hz
 have hnn : (binOp .eql 96 (.slice (some ⟨b,0,none⟩) rl.length c) (.slice none 0 0)).run Tryz.prog W = .ok (.bool false) W := by kernel_rfl
 by_cases hif : isF = nilB
 . subst hif
   have hbb : ∀ w,(binOp .neq 4 (.bool isF) (.bool isF)).run Tryz.prog w = .ok (.bool false) w := fun w => by cases isF <;> kernel_rfl
   go_upto_region 6 with (refine qbM rfl 68 _ _ (.tmp 12) (.tmp 14) rfl underRows underStr tb ⟨nm.toArray⟩ M (.slice none 0 0) rfl rfl HM.out (zeroRows _) ?_;rw [HLK.out,Option.getD_some])
   clear a0 b0 b1 b2 b3 b4 hz hnn hbb hlw hlg HM
   go_wp2_with fail
   go_loopg [46] rl.length (fun g v wr => RelRw w (.map (some tb)) [.int .i64 3,.string ⟨nm.toArray⟩,.int .i64 n,.slice la ll lc,.slice aa al ac] rl al v g wr)
   case atStart => exact ⟨0,by omega,rfl,fun j r hj => by omega,HB.out⟩
   case round =>
    obtain ⟨i,hig,rfl,hno,hb⟩ := hrel
    have HBR := Lib.hid hb
    have HNO := Lib.hid hno
    clear hno hb HB
    by_cases hi : i < rl.length
    . obtain ⟨r,hr⟩ : ∃ r,rl[i]? = some r := ⟨rl[i],List.getElem?_eq_getElem hi⟩
      obtain ⟨hrg,ho1,ho2⟩ := HRW.out i r hr
      have HRG : Hid (wr.rangeAt b (i * 3) [.string r.1,r.2.1,r.2.2]) := fun j u hu => (HBR.out.bx.below.cell (p := ⟨b,i * 3 + j,none⟩) (World.block_lt_of_cell? w _ (hrg j u hu))).trans (hrg j u hu)
      have HRR := Lib.hid hr
      have k0 : (0 : Int) <= (i : Int) := by omega
      have k1 : (i : Int) < (rl.length : Int) := by omega
      have hone : (#[.string r.1,r.2.1,r.2.2].all fun v : Value => v.oneCell') = true := by
       have z0 : (Value.string r.1).oneCell' = true := rfl
       simp [z0,ho1,ho2]
      have HBA : Hid (Below wr.heap.size wr (wr.alloc (.cells #[.string r.1,r.2.1,r.2.2] 90))) := (Below.refl _ _).alloc (Nat.le_refl _) _
      have HB2 : Hid (BoxR w (.map (some tb)) [.int .i64 3,.string ⟨nm.toArray⟩,.int .i64 n,.slice la ll lc,.slice aa al ac] (wr.alloc (.cells #[.string r.1,r.2.1,r.2.2] 90))) := ⟨HBR.out.bx.keep HBA.out⟩
      have HRN : Hid ((wr.alloc (.cells #[.string r.1,r.2.1,r.2.2] 90)).heap[wr.heap.size]? = some (.cells #[.string r.1,r.2.1,r.2.2] 90 (0,0))) := heap_alloc_new _ _
      clear hr hrg ho1 ho2 HBA
      have hcs := (cells5 (HB2.out.bx.at_ (i := 1) rfl)).2.2.2.2
      have hs0 : (wr.alloc (.cells #[.string r.1,r.2.1,r.2.2] 90)).cell? ⟨wr.heap.size,0,none⟩ = some (.string r.1) := cell_of_row _ _ 0 _ _ _ HRN.out
      by_cases he : r.1.size = al
      . have hd : ((r.1.size : Int) == (al : Int)) = true := by rw [he];simp
        have HE := Lib.hid he
        have k2 : (wr.alloc (.cells #[.string r.1,r.2.1,r.2.2] 90)).heap[w.heap.size + 1 + 1]? = some (.cells #[.string ⟨#[]⟩,.nilFunc,.nilFunc] 90 (0,0)) := HB2.out.bx.at_ (i := 2) rfl
        have HK2 := Lib.hid k2
        clear k2 he
        go_wp2_with (first
         | (refine wpList_load_mid rfl 90 (.tmp 48) rfl b (i * 3) rfl [.string r.1,r.2.1,r.2.2] _ HRG.out Tryz.underlying90 rfl callSize ?_)
         | (refine qaC rfl 90 (.tmp 10) (.tmp 49) rfl wr _ #[.string r.1,r.2.1,r.2.2] rfl rfl callSize rfl hone ?_)
         | (refine wpList_load_mid rfl 90 (.tmp 10) rfl wr.heap.size 0 rfl [.string r.1,r.2.1,r.2.2] _ (qaB HRN.out) Tryz.underlying90 rfl callSize ?_)
         | (refine qaA rfl 90 (.tmp 6) (.tmp 57) rfl _ (w.heap.size + 1 + 1) 90 #[.string ⟨#[]⟩,.nilFunc,.nilFunc] #[.string r.1,r.2.1,r.2.2] rfl rfl HK2.out callSize rfl hone ?_))
        have HKY : Hid (((wr.alloc (.cells #[.string r.1,r.2.1,r.2.2] 90)).setRow (w.heap.size + 1 + 1) #[.string r.1,r.2.1,r.2.2]).heap[w.heap.size + 1 + 1]? = some (.cells #[.string r.1,r.2.1,r.2.2] 90 (0,0))) := qaF _ _ _ _ _ HK2.out
        refine bodyPost_ret (qaE (P := Tryz.prog) rfl _ _ (w.heap.size + 1 + 1) 90 #[.string r.1,r.2.1,r.2.2] (0,0) _ _ rfl rfl HKY.out Tryz.underlying90 rfl callSize) rfl ?_
        have hro : rowOut rl isF isF al = .ok r := by unfold rowOut;rw [if_pos rfl,find_at HNO.out HRR.out HE.out]
        rw [hro]
        exact ⟨rfl,qaD HB2.out.bx.below (by omega) _⟩
      . have hd : ((r.1.size : Int) == (al : Int)) = false := by simpa using (fun h => he (by omega))
        have HNO2 : Hid (∀ j r',j < i + 1 -> rl[j]? = some r' -> r'.1.size ≠ al) := fun j r' hj hr' => by
         rcases Nat.lt_or_ge j i with h | h
         . exact HNO.out j r' h hr'
         . obtain rfl : j = i := by omega
           rw [HRR.out] at hr'
           injection hr' with hr'
           rw [<- hr']
           exact he
        clear he HNO
        go_wp2_with (first
         | (refine wpList_load_mid rfl 90 (.tmp 48) rfl b (i * 3) rfl [.string r.1,r.2.1,r.2.2] _ HRG.out Tryz.underlying90 rfl callSize ?_)
         | (refine qaC rfl 90 (.tmp 10) (.tmp 49) rfl wr _ #[.string r.1,r.2.1,r.2.2] rfl rfl callSize rfl hone ?_))
        go_roundg (rl.length - (i + 1))
        case measure => omega
        case rel => exact ⟨i + 1,by omega,by go_num,HNO2.out,HB2.out⟩
    . have HK2 : Hid (wr.heap[w.heap.size + 1 + 1]? = some (.cells #[.string ⟨#[]⟩,.nilFunc,.nilFunc] 90 (0,0))) := HBR.out.bx.at_ (i := 2) rfl
      have HKY : Hid ((wr.setRow (w.heap.size + 1 + 1) #[.string ⟨#[]⟩,.nilFunc,.nilFunc]).heap[w.heap.size + 1 + 1]? = some (.cells #[.string ⟨#[]⟩,.nilFunc,.nilFunc] 90 (0,0))) := qaF _ _ _ _ _ HK2.out
      have HNO2 : Hid (rowOut rl isF isF al = .error 16) := by
       show _ = _
       unfold rowOut
       rw [if_pos rfl,find_no (fun j r hj hr => HNO.out j r (by omega) hr)]
      clear HNO
      go_wp2_with (refine qaA rfl 90 (.tmp 6) (.tmp 59) rfl _ (w.heap.size + 1 + 1) 90 #[.string ⟨#[]⟩,.nilFunc,.nilFunc] #[.string ⟨#[]⟩,.nilFunc,.nilFunc] rfl rfl HK2.out callSize rfl (by simp [Value.oneCell']) ?_)
      refine bodyPost_ret (qaE (P := Tryz.prog) rfl _ _ (w.heap.size + 1 + 1) 90 #[.string ⟨#[]⟩,.nilFunc,.nilFunc] (0,0) _ _ rfl rfl HKY.out Tryz.underlying90 rfl callSize) rfl ?_
      rw [HNO2.out]
      exact ⟨rfl,qaD HBR.out.bx.below (by omega) _⟩
 . have hbb : ∀ w,(binOp .neq 4 (.bool isF) (.bool nilB)).run Tryz.prog w = .ok (.bool true) w := fun w => by
    cases isF <;> cases nilB <;> first | exact absurd rfl hif | kernel_rfl
   have HRO : Hid (rowOut rl nilB isF al = .error 17) := by show _ = _;unfold rowOut;rw [if_neg hif]
   have HK2 : Hid (W.heap[w.heap.size + 1 + 1]? = some (.cells #[.string ⟨#[]⟩,.nilFunc,.nilFunc] 90 (0,0))) := HB.out.bx.at_ (i := 2) rfl
   have HKY : Hid ((W.setRow (w.heap.size + 1 + 1) #[.string ⟨#[]⟩,.nilFunc,.nilFunc]).heap[w.heap.size + 1 + 1]? = some (.cells #[.string ⟨#[]⟩,.nilFunc,.nilFunc] 90 (0,0))) := qaF _ _ _ _ _ HK2.out
   clear hif
   go_wp2_with (first
    | (refine qbM rfl 68 _ _ (.tmp 12) (.tmp 14) rfl underRows underStr tb ⟨nm.toArray⟩ M (.slice none 0 0) rfl rfl HM.out (zeroRows _) ?_;rw [HLK.out,Option.getD_some])
    | (refine qaA rfl 90 (.tmp 6) (.tmp 43) rfl _ (w.heap.size + 1 + 1) 90 #[.string ⟨#[]⟩,.nilFunc,.nilFunc] #[.string ⟨#[]⟩,.nilFunc,.nilFunc] rfl rfl HK2.out callSize rfl (by simp [Value.oneCell']) ?_))
   refine bodyPost_ret (qaE (P := Tryz.prog) rfl _ _ (w.heap.size + 1 + 1) 90 #[.string ⟨#[]⟩,.nilFunc,.nilFunc] (0,0) _ _ rfl rfl HKY.out Tryz.underlying90 rfl callSize) rfl ?_
   rw [HRO.out]
   exact ⟨rfl,qaD HB.out.bx.below (by omega) _⟩
end Go.Proofs.YtaddcadapbpkfaaGreatDoor
namespace Go.Proofs.YtaddcadapbpkfaaGreatDoor
open Go.RowKit Pln
def rowNoE (k : Int) : Int := if k = 4 \/ k = 3 then 15 else 17
set_option maxHeartbeats 4000000 in
set_option maxRecDepth 100000 in
theorem row_no_c (tb : Nat) (isF : Bool) (M : List (ByteArray × Value)) (k : Int) (nm : List UInt8) (n : Int) (la : Option Addr) (ll lc : Nat) (aa : Option Addr) (al ac : Nat) (v : Value) (w : World) (hM : MapL w tb M)
 (hv : lookL M ⟨nm.toArray⟩ = some v \/ (lookL M ⟨nm.toArray⟩ = none /\ v = .slice none 0 0)) (hk : k = 3 -> v = .slice none 0 0) :
 Calls Tryz.prog 54 #[.agg #[.map (some tb)],.agg #[.int .i64 k,.string ⟨nm.toArray⟩,.int .i64 n,.slice la ll lc,.slice aa al ac],.bool isF] w (RowOutPost w (.error (rowNoE k))) := by
 have HB : Hid (BoxR w (.map (some tb)) [.int .i64 k,.string ⟨nm.toArray⟩,.int .i64 n,.slice la ll lc,.slice aa al ac] (((w.alloc (.cells #[.map (some tb)] 71)).alloc (.cells #[.int .i64 k,.string ⟨nm.toArray⟩,.int .i64 n,.slice la ll lc,.slice aa al ac] 25)).alloc (.cells #[.string ⟨#[]⟩,.nilFunc,.nilFunc] 90))) := ⟨bx3 w _ _ _ _ _ _⟩
 have HM := Lib.hid (hM.keep (HB.out.bx.below.block _ hM.lt))
 have HV : Hid ((lookL M ⟨nm.toArray⟩).getD (.slice none 0 0) = v) := by
  show _ = _
  rcases hv with h | ⟨h,rfl⟩ <;> rw [h] <;> rfl
 have HK := Lib.hid hk
 clear hM hv hk
 go_enter Tryz.func54,Tryz.ntmps54
 go_upto_region 1 with fail
 generalize ((w.alloc (.cells #[.map (some tb)] 71)).alloc (.cells #[.int .i64 k,.string ⟨nm.toArray⟩,.int .i64 n,.slice la ll lc,.slice aa al ac] 25)).alloc (.cells #[.string ⟨#[]⟩,.nilFunc,.nilFunc] 90) = W at *
 have a0 : W.cell? ⟨w.heap.size,0,none⟩ = some (.map (some tb)) := cell_of_one (HB.out.bx.at_ (i := 0) rfl)
 obtain ⟨b0,b1,b2,b3,b4⟩ := cells5 (HB.out.bx.at_ (i := 1) rfl)
 have HK2 : Hid (W.heap[w.heap.size + 1 + 1]? = some (.cells #[.string ⟨#[]⟩,.nilFunc,.nilFunc] 90 (0,0))) := HB.out.bx.at_ (i := 2) rfl
 have HKY : Hid ((W.setRow (w.heap.size + 1 + 1) #[.string ⟨#[]⟩,.nilFunc,.nilFunc]).heap[w.heap.size + 1 + 1]? = some (.cells #[.string ⟨#[]⟩,.nilFunc,.nilFunc] 90 (0,0))) := qaF _ _ _ _ _ HK2.out
 by_cases hk4 : k = 4
 . subst hk4
   go_wp2_with (first
    | (refine qbM rfl 68 _ _ (.tmp 12) (.tmp 14) rfl underRows underStr tb ⟨nm.toArray⟩ M (.slice none 0 0) rfl rfl HM.out (zeroRows _) ?_;rw [HV.out])
    | (refine qaA rfl 90 (.tmp 6) (.tmp 29) rfl _ (w.heap.size + 1 + 1) 90 #[.string ⟨#[]⟩,.nilFunc,.nilFunc] #[.string ⟨#[]⟩,.nilFunc,.nilFunc] rfl rfl HK2.out callSize rfl (by simp [Value.oneCell']) ?_))
   refine bodyPost_ret (qaE (P := Tryz.prog) rfl _ _ (w.heap.size + 1 + 1) 90 #[.string ⟨#[]⟩,.nilFunc,.nilFunc] (0,0) _ _ rfl rfl HKY.out Tryz.underlying90 rfl callSize) rfl ?_
   exact ⟨rfl,qaD HB.out.bx.below (by omega) _⟩
 . by_cases hk3 : k = 3
   . have hv0 := HK.out hk3
     subst hv0 hk3
     have hnn : (binOp .eql 96 (.slice none 0 0) (.slice none 0 0)).run Tryz.prog W = .ok (.bool true) W := by kernel_rfl
     clear hk4
     go_wp2_with (first
      | (refine qbM rfl 68 _ _ (.tmp 12) (.tmp 14) rfl underRows underStr tb ⟨nm.toArray⟩ M (.slice none 0 0) rfl rfl HM.out (zeroRows _) ?_;rw [HV.out])
      | (refine qaA rfl 90 (.tmp 6) (.tmp 29) rfl _ (w.heap.size + 1 + 1) 90 #[.string ⟨#[]⟩,.nilFunc,.nilFunc] #[.string ⟨#[]⟩,.nilFunc,.nilFunc] rfl rfl HK2.out callSize rfl (by simp [Value.oneCell']) ?_))
     refine bodyPost_ret (qaE (P := Tryz.prog) rfl _ _ (w.heap.size + 1 + 1) 90 #[.string ⟨#[]⟩,.nilFunc,.nilFunc] (0,0) _ _ rfl rfl HKY.out Tryz.underlying90 rfl callSize) rfl ?_
     exact ⟨rfl,qaD HB.out.bx.below (by omega) _⟩
   . have e4 : (k == 4) = false := by simpa using hk4
     have e3 : (k == 3) = false := by simpa using hk3
     have n3 : (k != 3) = true := by simpa using hk3
     have HE : Hid (rowNoE k = 17) := if_neg (fun h => h.elim hk4 hk3)
     clear hk4 hk3
     go_wp2_with (first
      | (refine qbM rfl 68 _ _ (.tmp 12) (.tmp 14) rfl underRows underStr tb ⟨nm.toArray⟩ M (.slice none 0 0) rfl rfl HM.out (zeroRows _) ?_;rw [HV.out])
      | (refine qaA rfl 90 (.tmp 6) (.tmp 43) rfl _ (w.heap.size + 1 + 1) 90 #[.string ⟨#[]⟩,.nilFunc,.nilFunc] #[.string ⟨#[]⟩,.nilFunc,.nilFunc] rfl rfl HK2.out callSize rfl (by simp [Value.oneCell']) ?_))
     refine bodyPost_ret (qaE (P := Tryz.prog) rfl _ _ (w.heap.size + 1 + 1) 90 #[.string ⟨#[]⟩,.nilFunc,.nilFunc] (0,0) _ _ rfl rfl HKY.out Tryz.underlying90 rfl callSize) rfl ?_
     rw [HE.out]
     exact ⟨rfl,qaD HB.out.bx.below (by omega) _⟩
end Go.Proofs.YtaddcadapbpkfaaGreatDoor
namespace Go.Proofs.YtaddcadapbpkfaaGreatDoor
open Go.RowKit Pln
def RowIs (w : World) (nm ks : List UInt8) (v1 v2 : Value) : Prop :=
 (nm = gfN /\ ∃ b,v1 = .func (.func 81) #[] #[.pointer (some ⟨b,0,none⟩)] /\
   ((ks = [78] /\ Cap w b (.func (.func 46) #[] #[]) 94) \/ (ks = [78,78,76] /\ Cap w b (.func (.func 48) #[] #[]) 94))) \/
 (nm ≠ gfN /\ RowV w ⟨nm.toArray⟩ (.agg #[.string ⟨ks.toArray⟩,v1,v2]))
theorem RowIs.keep {w w' : World} {nm ks : List UInt8} {v1 v2 : Value} (h : RowIs w nm ks v1 v2) (hb : Below w.heap.size w w') : RowIs w' nm ks v1 v2 := by
 rcases h with ⟨h1,b,h2,h3⟩ | ⟨h1,h2⟩
 . exact .inl ⟨h1,b,h2,h3.imp (fun h => ⟨h.1,h.2.keep hb⟩) (fun h => ⟨h.1,h.2.keep hb⟩)⟩
 . exact .inr ⟨h1,h2.keep hb⟩
def RowPost (w : World) (nm : List UInt8) (r : Except Int (List UInt8)) (e : Ending) (w' : World) : Prop :=
 (∃ (v0 v1 v2 : Value) (k : Int),e = .returned (.tuple #[.agg #[v0,v1,v2],.int .i64 k]) /\ v0.oneCell' = true /\ v1.oneCell' = true /\ v2.oneCell' = true /\ match r with
   | .error k' => k = k' /\ k' ≠ 0
   | .ok ks => k = 0 /\ v0 = .string ⟨ks.toArray⟩ /\ RowIs w' nm ks v1 v2) /\ Below w.heap.size w w'
theorem rowT_keys : ∀ d ∈ rowT,inBs (bas (upN 4)) d.k = true /\ d.k ≠ gfB := by decide +kernel
theorem rowT_nodup : ∀ i,i < rowT.length -> ∀ j,j < rowT.length -> (rowT.map (·.k))[i]? = (rowT.map (·.k))[j]? -> i = j := by decide +kernel
theorem rowT_find {i : Nat} {d : RowD} (h : rowT[i]? = some d) : rowT.find? (fun d' => decide (d'.k.data.toList = d.k.data.toList)) = some d := by
 rw [List.find?_eq_some_iff_getElem]
 obtain ⟨hl,e⟩ := List.getElem?_eq_some_iff.1 h
 refine ⟨by simp,i,hl,e,fun j hj => ?_⟩
 simp only [Bool.not_eq_true',decide_eq_false_iff_not]
 intro hk
 have hjl : j < rowT.length := by omega
 have : j = i := rowT_nodup j hjl i hl (by
  rw [List.getElem?_map,List.getElem?_map,h,List.getElem?_eq_getElem hjl]
  simp only [Option.map_some,Option.some.injEq]
  have h1 : (rowT[j]).k = ⟨(rowT[j]).k.data⟩ := by cases (rowT[j]).k;rfl
  have h2 : d.k = ⟨d.k.data⟩ := by cases d.k;rfl
  rw [h1,h2]
  congr 1
  exact Array.toList_inj.1 hk)
 omega
theorem argsK_row {i : Nat} {d : RowD} (h : rowT[i]? = some d) {nm : List UInt8} (hk : d.k = ⟨nm.toArray⟩) : argsK nm = some d.a.data.toList := by
 unfold argsK
 have := rowT_find h
 rw [hk] at this
 rw [show (fun d' : RowD => decide (d'.k.data.toList = nm)) = fun d' => decide (d'.k.data.toList = (⟨nm.toArray⟩ : ByteArray).data.toList) from rfl,this]
 rfl
theorem argsK_none {nm : List UInt8} (h : inBs (bas (upN 4)) ⟨nm.toArray⟩ = false) : argsK nm = none := by
 unfold argsK
 rw [Option.map_eq_none_iff,List.find?_eq_none]
 intro d hd
 simp only [decide_eq_true_eq]
 rintro rfl
 have := (rowT_keys d hd).1
 rw [show (⟨d.k.data.toList.toArray⟩ : ByteArray) = d.k by cases d.k;simp] at h
 rw [this] at h
 cases h
theorem eql_func (fn : Fn) (f c : Array Value) (w : World) : (binOp .eql 88 (.func fn f c) .nilFunc).run Tryz.prog w = .ok (.bool false) w := by kernel_rfl
theorem guard_func (fn : Fn) (f c : Array Value) (w : World) : (eqGuard .eql 88 (.tmp 39) (.const .nilFunc) (.func fn f c) .nilFunc).run Tryz.prog w = .ok () w := by kernel_rfl
theorem row_c (tb : Nat) (isF : Bool) (k : Int) (nm : List UInt8) (n : Int) (la : Option Addr) (ll lc : Nat) (aa : Option Addr) (al ac : Nat) (w : World) (hT : Tb w tb (inBs (bas (upN 4)))) :
 Calls Tryz.prog 54 #[.agg #[.map (some tb)],.agg #[.int .i64 k,.string ⟨nm.toArray⟩,.int .i64 n,.slice la ll lc,.slice aa al ac],.bool isF] w (RowPost w nm (rowM k nm al isF)) := by
 obtain ⟨M,hM,hTM⟩ := hT
 by_cases hk : k = 3
 . subst hk
   by_cases hg : nm = gfN
   . subst hg
     obtain ⟨v,hlk,b1,b2,⟨b,c,rfl,hlt,hrg⟩,c1,c2⟩ := hTM.gf
     refine (row_call_c tb b c [(⟨#[78]⟩,.func (.func 81) #[] #[.pointer (some ⟨b1,0,none⟩)],.nilFunc),(⟨#[78,78,76]⟩,.func (.func 81) #[] #[.pointer (some ⟨b2,0,none⟩)],.nilFunc)] true isF M gfN n la ll lc aa al ac w hM hlk ?_ (Nat.succ_pos _) (by simp only [List.length_cons,List.length_nil];omega) ?_).mono ?_
     . intro i r hr
       match i,hr with
       | 0,hr =>
         injection hr with hr
         subst hr
         exact ⟨fun j u hu => by
          have hj : j < 3 := (List.getElem?_eq_some_iff.1 hu).1
          match j,hj,hu with
          | 0,_,hu => exact hrg 0 u hu
          | 1,_,hu => exact hrg 1 u hu
          | 2,_,hu => exact hrg 2 u hu,rfl,rfl⟩
       | 1,hr =>
         injection hr with hr
         subst hr
         exact ⟨fun j u hu => by
          have hj : j < 3 := (List.getElem?_eq_some_iff.1 hu).1
          match j,hj,hu with
          | 0,_,hu => exact hrg 3 u hu
          | 1,_,hu => exact hrg 4 u hu
          | 2,_,hu => exact hrg 5 u hu,rfl,rfl⟩
       | i + 2,hr => simp at hr
     . intro r hr w
       injection hr with hr
       subst hr
       exact ⟨by kernel_rfl,by kernel_rfl⟩
     . rintro e w' ⟨h,hb⟩
       have hrm : rowM 3 gfN al isF = if isF = true then (if al = 1 then .ok [78] else if al = 3 then .ok [78,78,76] else .error 16) else .error 17 := by
        unfold rowM
        rw [if_neg (by decide),if_pos rfl,if_pos rfl]
       rw [hrm]
       cases isF
       . exact ⟨⟨_,_,_,17,h,rfl,rfl,rfl,rfl,by decide⟩,hb⟩
       . rw [if_pos rfl]
         by_cases h1 : al = 1
         . subst h1
           exact ⟨⟨_,_,_,0,h,rfl,rfl,rfl,rfl,rfl,.inl ⟨rfl,b1,rfl,.inl ⟨rfl,c1.keep hb⟩⟩⟩,hb⟩
         . rw [if_neg h1]
           by_cases h3 : al = 3
           . subst h3
             exact ⟨⟨_,_,_,0,h,rfl,rfl,rfl,rfl,rfl,.inl ⟨rfl,b2,rfl,.inr ⟨rfl,c2.keep hb⟩⟩⟩,hb⟩
           . rw [if_neg h3]
             have hro : rowOut [((⟨#[78]⟩ : ByteArray),Value.func (.func 81) #[] #[.pointer (some ⟨b1,0,none⟩)],Value.nilFunc),(⟨#[78,78,76]⟩,.func (.func 81) #[] #[.pointer (some ⟨b2,0,none⟩)],.nilFunc)] true true al = .error 16 := by
              unfold rowOut
              rw [if_pos rfl,find_no]
              intro j r hj hr
              match j,hr with
              | 0,hr => injection hr with hr;subst hr;exact fun h => h1 h.symm
              | 1,hr => injection hr with hr;subst hr;exact fun h => h3 h.symm
              | j + 2,hr => simp at hr
             rw [hro] at h
             exact ⟨⟨_,_,_,16,h,rfl,rfl,rfl,rfl,by decide⟩,hb⟩
   . have hgB : (⟨nm.toArray⟩ : ByteArray) ≠ gfB := fun e => hg (by
      have := congrArg (fun x : ByteArray => x.data.toList) e
      exact this)
     cases hin : inBs (bas (upN 4)) ⟨nm.toArray⟩
     . refine (row_no_c tb isF M 3 nm n la ll lc aa al ac (.slice none 0 0) w hM (.inr ⟨hTM.no _ hgB hin,rfl⟩) (fun _ => rfl)).mono ?_
       rintro e w' ⟨h,hb⟩
       have hrm : rowM 3 nm al isF = .error 15 := by
        unfold rowM
        rw [if_neg (by decide),if_pos rfl,if_neg hg,argsK_none hin]
       rw [hrm]
       exact ⟨⟨_,_,_,15,h,rfl,rfl,rfl,rfl,by decide⟩,hb⟩
     . obtain ⟨v,r,hlk,⟨b,c,rfl,hlt,hrg⟩,hr3,hrv⟩ := hTM.row _ hgB hin
       obtain ⟨i,d,hd,hdk,b',cs,hag,hc1,hc2⟩ := id hrv
       obtain ⟨x0,x1,x2,rfl⟩ : ∃ x0 x1 x2,r = [x0,x1,x2] := by
        match r,hr3 with
        | [x0,x1,x2],_ => exact ⟨x0,x1,x2,rfl⟩
       have hag' : (Value.agg #[x0,x1,x2]) = _ := hag
       injection hag' with hag'
       have hx := congrArg Array.toList hag'
       simp only [List.cons.injEq,and_true] at hx
       obtain ⟨rfl,rfl,rfl⟩ := hx
       have hak := argsK_row hd hdk
       have hda : (⟨d.a.data.toList.toArray⟩ : ByteArray) = d.a := by cases d.a;simp
       refine (row_call_c tb b c [(d.a,.func (.func 183) #[] #[.pointer (some ⟨b',0,none⟩)],.func (.func d.low) #[] (if d.lc = true then cs else #[]))] false isF M nm n la ll lc aa al ac w hM hlk ?_ (Nat.succ_pos _) (by simp only [List.length_cons,List.length_nil];omega) ?_).mono ?_
       . intro i r hr
         match i,hr with
         | 0,hr =>
           injection hr with hr
           subst hr
           exact ⟨fun j u hu => by rw [Nat.zero_mul];exact hrg j u hu,rfl,rfl⟩
         | i + 1,hr => simp at hr
       . intro r hr w
         injection hr with hr
         subst hr
         exact ⟨eql_func _ _ _ w,guard_func _ _ _ w⟩
       . rintro e w' ⟨h,hb⟩
         have hrm : rowM 3 nm al isF = if isF = true then .error 17 else if d.a.data.toList.length = al then .ok d.a.data.toList else .error 16 := by
          unfold rowM
          rw [if_neg (by decide),if_pos rfl,if_neg hg,hak]
         rw [hrm]
         cases isF
         . rw [if_neg (by decide)]
           have hsz : d.a.size = d.a.data.toList.length := (qeB _).symm
           by_cases hl : d.a.data.toList.length = al
           . rw [if_pos hl]
             have hro : rowOut [(d.a,Value.func (.func 183) #[] #[.pointer (some ⟨b',0,none⟩)],Value.func (.func d.low) #[] (if d.lc = true then cs else #[]))] false false al = .ok (d.a,.func (.func 183) #[] #[.pointer (some ⟨b',0,none⟩)],.func (.func d.low) #[] (if d.lc = true then cs else #[])) := by
              unfold rowOut
              rw [if_pos rfl,List.find?_cons_of_pos (by simpa using hsz.trans hl)]
             rw [hro] at h
             exact ⟨⟨_,_,_,0,h,rfl,rfl,rfl,rfl,by rw [hda],.inr ⟨hg,by rw [hda];exact hrv.keep hb⟩⟩,hb⟩
           . rw [if_neg hl]
             have hro : rowOut [(d.a,Value.func (.func 183) #[] #[.pointer (some ⟨b',0,none⟩)],Value.func (.func d.low) #[] (if d.lc = true then cs else #[]))] false false al = .error 16 := by
              unfold rowOut
              rw [if_pos rfl,List.find?_cons_of_neg (by simpa using fun h => hl (hsz.symm.trans h))]
              rfl
             rw [hro] at h
             exact ⟨⟨_,_,_,16,h,rfl,rfl,rfl,rfl,by decide⟩,hb⟩
         . rw [if_pos rfl]
           exact ⟨⟨_,_,_,17,h,rfl,rfl,rfl,rfl,by decide⟩,hb⟩
 . obtain ⟨v,hv⟩ : ∃ v,lookL M ⟨nm.toArray⟩ = some v \/ (lookL M ⟨nm.toArray⟩ = none /\ v = .slice none 0 0) := by
    cases h : lookL M ⟨nm.toArray⟩ with
    | none => exact ⟨_,.inr ⟨rfl,rfl⟩⟩
    | some v => exact ⟨v,.inl rfl⟩
   refine (row_no_c tb isF M k nm n la ll lc aa al ac v w hM hv (fun h => absurd h hk)).mono ?_
   rintro e w' ⟨h,hb⟩
   by_cases h4 : k = 4
   . subst h4
     exact ⟨⟨_,_,_,15,h,rfl,rfl,rfl,rfl,by decide⟩,hb⟩
   . have hrm : rowM k nm al isF = .error 17 := by
      unfold rowM
      rw [if_neg h4,if_neg hk]
     have hre : rowNoE k = 17 := if_neg (fun h => h.elim h4 hk)
     rw [hre] at h
     rw [hrm]
     exact ⟨⟨_,_,_,17,h,rfl,rfl,rfl,rfl,by decide⟩,hb⟩
end Go.Proofs.YtaddcadapbpkfaaGreatDoor
namespace Go.Proofs.YtaddcadapbpkfaaGreatDoor
open Go.RowKit Pln
theorem compSize : (Tryz.prog.info? 71).map (·.size) = some 1 := by kernel_rfl
theorem valC_back {B b0 : Nat} {w W w1 : World} {v : VM} {cs : List Value} (h : ValC w1 (fun b => b < B \/ W.heap.size <= b) v cs) (h0 : B <= w.heap.size) (h1 : w.heap.size <= b0) (h2 : b0 < W.heap.size) (c' : Array Value) : ValC (w1.setRow b0 c') (fun b => b < B \/ w.heap.size <= b) v cs :=
 h.mono fun b hb _ => ⟨hb.imp id (fun h => by omega),setRow_other w1 b0 b c' (by omega)⟩
def ResIs (w' : World) (F : Nat -> Prop) (r : Res) (k : Int) (cs : List Value) : Prop := match r with
 | .error k' => k = k' /\ k' ≠ 0
 | .ok v => k = 0 /\ ValC w' F v cs
theorem resIs_back {B b0 : Nat} {w W w1 : World} {r : Res} {k : Int} {cs : List Value} (h : ResIs w1 (fun b => b < B \/ W.heap.size <= b) r k cs) (h0 : B <= w.heap.size) (h1 : w.heap.size <= b0) (h2 : b0 < W.heap.size) (c' : Array Value) : ResIs (w1.setRow b0 c') (fun b => b < B \/ w.heap.size <= b) r k cs := by
 cases r with
 | error k' => exact h
 | ok v => exact ⟨h.1,valC_back h.2 h0 h1 h2 c'⟩
theorem valC_num (w : World) (F : Nat -> Prop) (n : Int) : ValC w F (.num n) [.int .i64 0,.int .i64 0,.slice none 0 0,.int .i64 0,.int .i64 0,.slice none 0 0,.int .i64 0,.slice none 0 0,.int .i64 n,.slice none 0 0] := by
 unfold ValC
 rfl
set_option maxHeartbeats 4000000 in
set_option maxRecDepth 100000 in
theorem argument_c (S : Sem) (tb B : Nat) (k : Int) (nm : List UInt8) (n : Int) (ls : List Int) (xs : List E) (la : Option Addr) (lc : Nat) (aa : Option Addr) (ac : Nat) (kd : UInt8) (w : World) (hls : IntsF w (· < B) la ls) (hB : B <= w.heap.size)
 (ih : (kd = 70 \/ kd = 67) -> ∀ W,Below w.heap.size w W -> Calls Tryz.prog 32 #[.agg #[.map (some tb)],.agg #[.int .i64 k,.string ⟨nm.toArray⟩,.int .i64 n,.slice la ls.length lc,.slice aa xs.length ac],.bool (decide (kd = 70))] W (MeanPost W (· < B) (meanM S (.mk k nm n ls xs) (decide (kd = 70))))) :
 Calls Tryz.prog 55 #[.agg #[.map (some tb)],.agg #[.int .i64 k,.string ⟨nm.toArray⟩,.int .i64 n,.slice la ls.length lc,.slice aa xs.length ac],.int .u8 kd.toNat] w (MeanPost w (· < B) (argM S (.mk k nm n ls xs) kd)) := by
 have HB : Hid (Bx w [([.map (some tb)],71),(#[.int .i64 k,.string ⟨nm.toArray⟩,.int .i64 n,.slice la ls.length lc,.slice aa xs.length ac].toList,25),(#[.int .i64 0,.int .i64 0,.slice none 0 0,.int .i64 0,.int .i64 0,.slice none 0 0,.int .i64 0,.slice none 0 0,.int .i64 0,.slice none 0 0].toList,60)] (((w.alloc (.cells #[.map (some tb)] 71)).alloc (.cells #[.int .i64 k,.string ⟨nm.toArray⟩,.int .i64 n,.slice la ls.length lc,.slice aa xs.length ac] 25)).alloc (.cells #[.int .i64 0,.int .i64 0,.slice none 0 0,.int .i64 0,.int .i64 0,.slice none 0 0,.int .i64 0,.slice none 0 0,.int .i64 0,.slice none 0 0] 60))) := bx3 w _ _ _ _ _ _
 have HWL : Hid ((((w.alloc (.cells #[.map (some tb)] 71)).alloc (.cells #[.int .i64 k,.string ⟨nm.toArray⟩,.int .i64 n,.slice la ls.length lc,.slice aa xs.length ac] 25)).alloc (.cells #[.int .i64 0,.int .i64 0,.slice none 0 0,.int .i64 0,.int .i64 0,.slice none 0 0,.int .i64 0,.slice none 0 0,.int .i64 0,.slice none 0 0] 60)).heap.size = w.heap.size + 3) := by show _ = _;simp
 have HL := Lib.hid hls
 have HI := Lib.hid ih
 clear hls ih
 go_enter Tryz.func55,Tryz.ntmps55
 go_upto_region 1 with fail
 generalize ((w.alloc (.cells #[.map (some tb)] 71)).alloc (.cells #[.int .i64 k,.string ⟨nm.toArray⟩,.int .i64 n,.slice la ls.length lc,.slice aa xs.length ac] 25)).alloc (.cells #[.int .i64 0,.int .i64 0,.slice none 0 0,.int .i64 0,.int .i64 0,.slice none 0 0,.int .i64 0,.slice none 0 0,.int .i64 0,.slice none 0 0] 60) = W at *
 have hm : W.rangeAt w.heap.size 0 [.map (some tb)] := qaB (HB.out.at_ (i := 0) rfl)
 have HMR := Lib.hid hm
 have hx : W.rangeAt (w.heap.size + 1) 0 #[.int .i64 k,.string ⟨nm.toArray⟩,.int .i64 n,.slice la ls.length lc,.slice aa xs.length ac].toList := qaB (HB.out.at_ (i := 1) rfl)
 have HXR := Lib.hid hx
 obtain ⟨b0,b1,b2,b3,b4⟩ := cells5 (HB.out.at_ (i := 1) rfl)
 have HK2 : Hid (W.heap[w.heap.size + 1 + 1]? = some (.cells #[.int .i64 0,.int .i64 0,.slice none 0 0,.int .i64 0,.int .i64 0,.slice none 0 0,.int .i64 0,.slice none 0 0,.int .i64 0,.slice none 0 0] 60 (0,0))) := HB.out.at_ (i := 2) rfl
 clear hm hx
 by_cases hk : kd = 70 \/ kd = 67
 . have HAM : Hid (argM S (.mk k nm n ls xs) kd = meanM S (.mk k nm n ls xs) (decide (kd = 70))) := if_pos hk
   have HC := Lib.hid (HI.out hk W HB.out.below)
   have hmean : ∀ (v : Bool),True := fun _ => trivial
   clear hmean
   rcases hk with rfl | rfl
   all_goals
    clear HI
    have HCC := HC
    clear HC
    go_wp2_with (first
     | (refine wpList_load_mid rfl 71 (.tmp 3) rfl w.heap.size 0 rfl [.map (some tb)] _ HMR.out Tryz.underlying71 rfl compSize ?_)
     | (refine wpList_load_mid rfl 25 (.tmp 4) rfl (w.heap.size + 1) 0 rfl #[.int .i64 k,.string ⟨nm.toArray⟩,.int .i64 n,.slice la ls.length lc,.slice aa xs.length ac].toList _ HXR.out Tryz.underlying25 rfl exprSize ?_))
    refine HCC.out.mono ?_
    rintro e w1 ⟨⟨cs,k',rfl,hten,hone,hres⟩,hb1⟩
    have HRES : Hid (ResIs w1 (fun b => b < B \/ W.heap.size <= b) _ k' cs) := hres
    have HB1 := Lib.hid (HB.out.keep hb1)
    have HK21 := Lib.hid ((hb1.block _ (by have := HWL.out;omega)).trans HK2.out)
    have HTEN : Hid (cs.toArray.size = 10) := by show _ = _;simpa using hten
    have HONE : Hid (cs.toArray.all (fun v => v.oneCell') = true) := by show _ = _;simpa using hone
    have hvs : (Tryz.prog.info? 60).map (·.size) = some cs.toArray.size := by rw [HTEN.out];exact valueSize
    have HVS := Lib.hid hvs
    clear hres hb1 hten hone hvs HCC
    go_wp2_with (refine qaA rfl 60 (.tmp 6) (.tmp 20) rfl _ (w.heap.size + 1 + 1) 60 #[.int .i64 0,.int .i64 0,.slice none 0 0,.int .i64 0,.int .i64 0,.slice none 0 0,.int .i64 0,.slice none 0 0,.int .i64 0,.slice none 0 0] cs.toArray rfl rfl HK21.out HVS.out HTEN.out.symm HONE.out ?_)
    refine bodyPost_ret (qaE (P := Tryz.prog) rfl _ _ (w.heap.size + 1 + 1) 60 cs.toArray (0,0) _ _ rfl rfl (qaF w1 (w.heap.size + 1 + 1) _ _ _ HK21.out) Tryz.underlying60 rfl HVS.out) rfl ?_
    rw [HAM.out]
    exact ⟨⟨cs,k',rfl,by simpa using HTEN.out,by simpa using HONE.out,resIs_back HRES.out hB (by omega) (by have := HWL.out;omega) _⟩,qaD HB1.out.below (by omega) _⟩
 . have h70 : kd ≠ 70 := fun h => hk (.inl h)
   have h67 : kd ≠ 67 := fun h => hk (.inr h)
   have e70 : ((kd.toNat : Int) == 70) = false := by
    simp only [beq_eq_false_iff_ne,ne_eq]
    intro h
    exact h70 (UInt8.toNat_inj.1 (by have : kd.toNat = 70 := by omega
                                     simpa using this))
   have e67 : ((kd.toNat : Int) == 67) = false := by
    simp only [beq_eq_false_iff_ne,ne_eq]
    intro h
    exact h67 (UInt8.toNat_inj.1 (by have : kd.toNat = 67 := by omega
                                     simpa using this))
   have HAL : Hid (argM S (.mk k nm n ls xs) kd = litM k n ls kd) := if_neg hk
   clear HI hk h70 h67 HMR HXR
   by_cases h4 : k = 4
   . have HAM : Hid (argM S (.mk k nm n ls xs) kd = .error 15) := by
      show _ = _
      rw [HAL.out]
      exact if_pos h4
     subst h4
     clear HAL
     go_wp2_with (refine qaA rfl 60 (.tmp 6) (.tmp 26) rfl _ (w.heap.size + 1 + 1) 60 #[.int .i64 0,.int .i64 0,.slice none 0 0,.int .i64 0,.int .i64 0,.slice none 0 0,.int .i64 0,.slice none 0 0,.int .i64 0,.slice none 0 0] #[.int .i64 0,.int .i64 0,.slice none 0 0,.int .i64 0,.int .i64 0,.slice none 0 0,.int .i64 0,.slice none 0 0,.int .i64 0,.slice none 0 0] rfl rfl HK2.out valueSize rfl (by simp [Value.oneCell']) ?_)
     refine bodyPost_ret (qaE (P := Tryz.prog) rfl _ _ (w.heap.size + 1 + 1) 60 #[.int .i64 0,.int .i64 0,.slice none 0 0,.int .i64 0,.int .i64 0,.slice none 0 0,.int .i64 0,.slice none 0 0,.int .i64 0,.slice none 0 0] (0,0) _ _ rfl rfl (qaF W (w.heap.size + 1 + 1) _ _ _ HK2.out) Tryz.underlying60 rfl valueSize) rfl ?_
     rw [HAM.out]
     exact ⟨⟨#[.int .i64 0,.int .i64 0,.slice none 0 0,.int .i64 0,.int .i64 0,.slice none 0 0,.int .i64 0,.slice none 0 0,.int .i64 0,.slice none 0 0].toList,15,rfl,rfl,qbQ rfl,⟨rfl,by decide⟩⟩,qaD HB.out.below (by omega) _⟩
   . have e4 : (k == 4) = false := by simpa using h4
     by_cases h78 : kd = 78 /\ k = 1
     . have HAM : Hid (argM S (.mk k nm n ls xs) kd = .ok (.num n)) := by
        show _ = _
        rw [HAL.out]
        unfold litM
        rw [if_neg h4,if_pos h78]
       obtain ⟨rfl,rfl⟩ := h78
       clear HAL e4 h4 e70 e67
       go_wp2_with (refine qaA rfl 60 (.tmp 6) (.tmp 37) rfl _ (w.heap.size + 1 + 1) 60 #[.int .i64 0,.int .i64 0,.slice none 0 0,.int .i64 0,.int .i64 0,.slice none 0 0,.int .i64 0,.slice none 0 0,.int .i64 0,.slice none 0 0] #[.int .i64 0,.int .i64 0,.slice none 0 0,.int .i64 0,.int .i64 0,.slice none 0 0,.int .i64 0,.slice none 0 0,.int .i64 n,.slice none 0 0] rfl rfl HK2.out valueSize rfl (by simp [Value.oneCell']) ?_)
       refine bodyPost_ret (qaE (P := Tryz.prog) rfl _ _ (w.heap.size + 1 + 1) 60 #[.int .i64 0,.int .i64 0,.slice none 0 0,.int .i64 0,.int .i64 0,.slice none 0 0,.int .i64 0,.slice none 0 0,.int .i64 n,.slice none 0 0] (0,0) _ _ rfl rfl (qaF W (w.heap.size + 1 + 1) _ _ _ HK2.out) Tryz.underlying60 rfl valueSize) rfl ?_
       rw [HAM.out]
       exact ⟨⟨#[.int .i64 0,.int .i64 0,.slice none 0 0,.int .i64 0,.int .i64 0,.slice none 0 0,.int .i64 0,.slice none 0 0,.int .i64 n,.slice none 0 0].toList,0,rfl,rfl,qbQ rfl,⟨rfl,valC_num _ _ _⟩⟩,qaD HB.out.below (by omega) _⟩
     . by_cases h76 : kd = 76 /\ k = 2
       . have HAM : Hid (argM S (.mk k nm n ls xs) kd = .ok (.lst ls)) := by
          show _ = _
          rw [HAL.out]
          unfold litM
          rw [if_neg h4,if_neg h78,if_pos h76]
         obtain ⟨rfl,rfl⟩ := h76
         clear HAL e4 h4 h78 e70 e67
         have HLF : Hid (IntsF (W.setRow (w.heap.size + 1 + 1) #[.int .i64 0,.int .i64 0,.slice none 0 0,.int .i64 0,.int .i64 0,.slice none 0 0,.int .i64 0,.slice none 0 0,.int .i64 0,.slice la ls.length lc]) (fun b => b < B \/ w.heap.size <= b) la ls) :=
          (HL.out.mono (F' := (· < B)) fun b hb _ => ⟨hb,HB.out.below.block b (Nat.lt_of_lt_of_le hb hB)⟩).mono fun b hb _ => ⟨.inl hb,setRow_other W (w.heap.size + 1 + 1) b _ (by have hb : b < B := hb;omega)⟩
         go_wp2_with (refine qaA rfl 60 (.tmp 6) (.tmp 48) rfl _ (w.heap.size + 1 + 1) 60 #[.int .i64 0,.int .i64 0,.slice none 0 0,.int .i64 0,.int .i64 0,.slice none 0 0,.int .i64 0,.slice none 0 0,.int .i64 0,.slice none 0 0] #[.int .i64 0,.int .i64 0,.slice none 0 0,.int .i64 0,.int .i64 0,.slice none 0 0,.int .i64 0,.slice none 0 0,.int .i64 0,.slice la ls.length lc] rfl rfl HK2.out valueSize rfl (by simp [Value.oneCell']) ?_)
         refine bodyPost_ret (qaE (P := Tryz.prog) rfl _ _ (w.heap.size + 1 + 1) 60 #[.int .i64 0,.int .i64 0,.slice none 0 0,.int .i64 0,.int .i64 0,.slice none 0 0,.int .i64 0,.slice none 0 0,.int .i64 0,.slice la ls.length lc] (0,0) _ _ rfl rfl (qaF W (w.heap.size + 1 + 1) _ _ _ HK2.out) Tryz.underlying60 rfl valueSize) rfl ?_
         rw [HAM.out]
         exact ⟨⟨#[.int .i64 0,.int .i64 0,.slice none 0 0,.int .i64 0,.int .i64 0,.slice none 0 0,.int .i64 0,.slice none 0 0,.int .i64 0,.slice la ls.length lc].toList,0,rfl,rfl,qbQ rfl,⟨rfl,la,lc,rfl,HLF.out⟩⟩,qaD HB.out.below (by omega) _⟩
       . have HAM : Hid (argM S (.mk k nm n ls xs) kd = .error 17) := by
          show _ = _
          rw [HAL.out]
          unfold litM
          rw [if_neg h4,if_neg h78,if_neg h76]
         have h78i : ((kd.toNat : Int) == 78) = true -> (k == 1) = false := fun h => by
          simp only [beq_eq_false_iff_ne,ne_eq]
          intro hk1
          simp only [beq_iff_eq] at h
          exact h78 ⟨UInt8.toNat_inj.1 (by have : kd.toNat = 78 := by omega
                                           simpa using this),hk1⟩
         have h76i : ((kd.toNat : Int) == 76) = true -> (k == 2) = false := fun h => by
          simp only [beq_eq_false_iff_ne,ne_eq]
          intro hk1
          simp only [beq_iff_eq] at h
          exact h76 ⟨UInt8.toNat_inj.1 (by have : kd.toNat = 76 := by omega
                                           simpa using this),hk1⟩
         clear HAL h4 h78 h76
         cases c78 : ((kd.toNat : Int) == 78) <;> cases c76 : ((kd.toNat : Int) == 76)
         . clear h78i h76i
           go_wp2_with (refine qaA rfl 60 (.tmp 6) (.tmp 49) rfl _ (w.heap.size + 1 + 1) 60 #[.int .i64 0,.int .i64 0,.slice none 0 0,.int .i64 0,.int .i64 0,.slice none 0 0,.int .i64 0,.slice none 0 0,.int .i64 0,.slice none 0 0] #[.int .i64 0,.int .i64 0,.slice none 0 0,.int .i64 0,.int .i64 0,.slice none 0 0,.int .i64 0,.slice none 0 0,.int .i64 0,.slice none 0 0] rfl rfl HK2.out valueSize rfl (by simp [Value.oneCell']) ?_)
           refine bodyPost_ret (qaE (P := Tryz.prog) rfl _ _ (w.heap.size + 1 + 1) 60 #[.int .i64 0,.int .i64 0,.slice none 0 0,.int .i64 0,.int .i64 0,.slice none 0 0,.int .i64 0,.slice none 0 0,.int .i64 0,.slice none 0 0] (0,0) _ _ rfl rfl (qaF W (w.heap.size + 1 + 1) _ _ _ HK2.out) Tryz.underlying60 rfl valueSize) rfl ?_
           rw [HAM.out]
           exact ⟨⟨#[.int .i64 0,.int .i64 0,.slice none 0 0,.int .i64 0,.int .i64 0,.slice none 0 0,.int .i64 0,.slice none 0 0,.int .i64 0,.slice none 0 0].toList,17,rfl,rfl,qbQ rfl,⟨rfl,by decide⟩⟩,qaD HB.out.below (by omega) _⟩
         . have c2 := h76i c76
           clear h78i h76i
           go_wp2_with (refine qaA rfl 60 (.tmp 6) (.tmp 49) rfl _ (w.heap.size + 1 + 1) 60 #[.int .i64 0,.int .i64 0,.slice none 0 0,.int .i64 0,.int .i64 0,.slice none 0 0,.int .i64 0,.slice none 0 0,.int .i64 0,.slice none 0 0] #[.int .i64 0,.int .i64 0,.slice none 0 0,.int .i64 0,.int .i64 0,.slice none 0 0,.int .i64 0,.slice none 0 0,.int .i64 0,.slice none 0 0] rfl rfl HK2.out valueSize rfl (by simp [Value.oneCell']) ?_)
           refine bodyPost_ret (qaE (P := Tryz.prog) rfl _ _ (w.heap.size + 1 + 1) 60 #[.int .i64 0,.int .i64 0,.slice none 0 0,.int .i64 0,.int .i64 0,.slice none 0 0,.int .i64 0,.slice none 0 0,.int .i64 0,.slice none 0 0] (0,0) _ _ rfl rfl (qaF W (w.heap.size + 1 + 1) _ _ _ HK2.out) Tryz.underlying60 rfl valueSize) rfl ?_
           rw [HAM.out]
           exact ⟨⟨#[.int .i64 0,.int .i64 0,.slice none 0 0,.int .i64 0,.int .i64 0,.slice none 0 0,.int .i64 0,.slice none 0 0,.int .i64 0,.slice none 0 0].toList,17,rfl,rfl,qbQ rfl,⟨rfl,by decide⟩⟩,qaD HB.out.below (by omega) _⟩
         . have c1 := h78i c78
           clear h78i h76i
           go_wp2_with (refine qaA rfl 60 (.tmp 6) (.tmp 49) rfl _ (w.heap.size + 1 + 1) 60 #[.int .i64 0,.int .i64 0,.slice none 0 0,.int .i64 0,.int .i64 0,.slice none 0 0,.int .i64 0,.slice none 0 0,.int .i64 0,.slice none 0 0] #[.int .i64 0,.int .i64 0,.slice none 0 0,.int .i64 0,.int .i64 0,.slice none 0 0,.int .i64 0,.slice none 0 0,.int .i64 0,.slice none 0 0] rfl rfl HK2.out valueSize rfl (by simp [Value.oneCell']) ?_)
           refine bodyPost_ret (qaE (P := Tryz.prog) rfl _ _ (w.heap.size + 1 + 1) 60 #[.int .i64 0,.int .i64 0,.slice none 0 0,.int .i64 0,.int .i64 0,.slice none 0 0,.int .i64 0,.slice none 0 0,.int .i64 0,.slice none 0 0] (0,0) _ _ rfl rfl (qaF W (w.heap.size + 1 + 1) _ _ _ HK2.out) Tryz.underlying60 rfl valueSize) rfl ?_
           rw [HAM.out]
           exact ⟨⟨#[.int .i64 0,.int .i64 0,.slice none 0 0,.int .i64 0,.int .i64 0,.slice none 0 0,.int .i64 0,.slice none 0 0,.int .i64 0,.slice none 0 0].toList,17,rfl,rfl,qbQ rfl,⟨rfl,by decide⟩⟩,qaD HB.out.below (by omega) _⟩
         . simp only [beq_iff_eq] at c78 c76
           omega
end Go.Proofs.YtaddcadapbpkfaaGreatDoor
