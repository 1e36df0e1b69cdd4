/-
 The reference: Check and Same.
-/
import Derived.Deep.CutBlock
import Derived.LoopN
import Derived.Test.YtaddcadapbpkfaaGreatDoorR24
namespace Go.Proofs.YtaddcadapbpkfaaGreatDoor
open Go.RowKit
theorem shortL_mem : ∀ (l : List E) (x : E),x ∈ l -> shortE x = false -> shortL l = false
 | y :: r,x,hm,hf => by
   unfold shortL
   rcases List.mem_cons.1 hm with rfl | hm
   . rw [hf];rfl
   . rw [shortL_mem r x hm hf,Bool.and_false]
def RelRS (W : World) (xs : List E) (v3 v4 : Value) (g : Nat) (wr : World) : Prop :=
 ∃ i,i + g = xs.length /\ v3 = .int .i64 ((1 + sizeL (xs.take i) : Nat) : Int) /\ v4 = .int .i64 i /\ Below W.heap.size W wr
set_option maxHeartbeats 4000000 in
set_option maxRecDepth 100000 in
theorem rsize_c : ∀ (x : E) (cs : List Value) (F : Nat -> Prop) (w : World),ExprC w F x cs -> sizeE x <= 1000000000 ->
 Calls Tryz.prog 27 #[.agg cs.toArray] w fun e w' => e = .returned (.int .i64 (sizeE x)) /\ Below w.heap.size w w' := by
 refine qaT ?_
 intro k nm n ls xs ih cs F w h hs
 unfold ExprC at h
 obtain ⟨la,lc,aa,ac,rfl,_,ha⟩ := h
 have hs' : 1 + sizeL xs <= 1000000000 := by unfold sizeE at hs;exact hs
 have hlen : xs.length <= 1000000000 := by have := qbS xs;omega
 have HIH := Lib.hid ih
 have HA : Hid (ArgsAt w F aa xs) := ha
 have HS : Hid (sizeE (.mk k nm n ls xs) = 1 + sizeL xs) := by show _ = _;conv => lhs;unfold sizeE
 clear ih ha hs
 go_enter Tryz.func27,Tryz.ntmps27
 go_wp2_with fail
 have hb0 : Below w.heap.size w (w.alloc (.cells #[.int .i64 k,.string ⟨nm.toArray⟩,.int .i64 n,.slice la ls.length lc,.slice aa xs.length ac] 25)) := (Below.refl _ _).alloc (Nat.le_refl _) _
 have HA1 := Lib.hid (HA.out.grow hb0)
 have HB0 := Lib.hid hb0
 have c4 : (w.alloc (.cells #[.int .i64 k,.string ⟨nm.toArray⟩,.int .i64 n,.slice la ls.length lc,.slice aa xs.length ac] 25)).cell? ⟨w.heap.size,4,none⟩ = some (.slice aa xs.length ac) := World.cell?_alloc_new _ _ _ 4
 have hwl : w.heap.size < (w.alloc (.cells #[.int .i64 k,.string ⟨nm.toArray⟩,.int .i64 n,.slice la ls.length lc,.slice aa xs.length ac] 25)).heap.size := by rw [World.size_alloc];omega
 have C4 := Lib.hid c4
 clear hb0 HA c4
 generalize w.alloc (.cells #[.int .i64 k,.string ⟨nm.toArray⟩,.int .i64 n,.slice la ls.length lc,.slice aa xs.length ac] 25) = W at *
 go_loopg [3,4] xs.length (fun g v3 v4 wr => RelRS W xs v3 v4 g wr)
 case atStart => exact ⟨0,by omega,by simp [sizeL],rfl,Below.refl _ _⟩
 case round =>
  obtain ⟨i,hig,rfl,rfl,hbr⟩ := hrel
  have HBR := Lib.hid hbr
  have HAR := Lib.hid (HA1.out.grow hbr)
  have d4 : wr.cell? ⟨w.heap.size,4,none⟩ = some (.slice aa xs.length ac) := (hbr.cell (p := ⟨w.heap.size,4,none⟩) hwl).trans C4.out
  clear hbr HA1 C4
  by_cases hi : i < xs.length
  . obtain ⟨b,o,k',nm',n',la',ll',lc',ab',al',ac',rfl,hrg,hec⟩ := HAR.out.at_ hi
    have hsz : sizeL (xs.take (i + 1)) = sizeL (xs.take i) + sizeE xs[i] := by rw [qaV (List.getElem?_eq_getElem hi),qeU]
    have hsl := qeW xs (i + 1)
    have HSZ := Lib.hid hsz
    have HRG := Lib.hid hrg
    have hse : sizeE xs[i] <= 1000000000 := by omega
    have hadd : 1 + sizeL (xs.take i) + sizeE xs[i] <= 1000000000 := by omega
    have HC : Hid (Calls Tryz.prog 27 #[.agg #[.int .i64 k',.string nm',.int .i64 n',.slice la' ll' lc',.slice ab' al' ac']] wr fun e w'' => e = .returned (.int .i64 (sizeE xs[i])) /\ Below wr.heap.size wr w'') :=
     HIH.out xs[i] (List.getElem_mem hi) _ F wr hec hse
    clear hsz hrg hec HAR
    generalize sizeE xs[i] = z at *
    generalize sizeL (xs.take i) = y at *
    have hi0 : (0 : Int) <= (i : Int) := by omega
    have hi1 : (i : Int) < (xs.length : Int) := by omega
    go_wp2_with (refine wpList_load_mid rfl 25 (.tmp 16) rfl b (o + i * 5) rfl [.int .i64 k',.string nm',.int .i64 n',.slice la' ll' lc',.slice ab' al' ac'] _ HRG.out Tryz.underlying25 rfl exprSize ?_)
    refine HC.out.mono ?_
    rintro e w5 ⟨rfl,hb5⟩
    have HB5 := Lib.hid (HBR.out.trans (hb5.mono HBR.out.size))
    clear hb5 HC HBR
    go_wp2_with fail
    go_roundg (xs.length - (i + 1))
    case measure => omega
    case rel => exact ⟨i + 1,by omega,by rw [HSZ.out];simp;omega,by simp,HB5.out⟩
  . go_wp2_with fail
    go_ret
    refine ⟨qaM ?_,HB0.out.trans (HBR.out.mono HB0.out.size)⟩
    rw [HS.out,List.take_of_length_le (by omega)]
def RelRD (W : World) (xs : List E) (v3 v4 : Value) (g : Nat) (wr : World) : Prop :=
 ∃ i,i + g = xs.length /\ v3 = .int .i64 (depthL (xs.take i)) /\ v4 = .int .i64 i /\ Below W.heap.size W wr
set_option maxHeartbeats 4000000 in
set_option maxRecDepth 100000 in
theorem rdepth_c : ∀ (x : E) (cs : List Value) (F : Nat -> Prop) (w : World),ExprC w F x cs -> sizeE x <= 1000000000 ->
 Calls Tryz.prog 28 #[.agg cs.toArray] w fun e w' => e = .returned (.int .i64 (depthE x)) /\ Below w.heap.size w w' := by
 refine qaT ?_
 intro k nm n ls xs ih cs F w h hs
 unfold ExprC at h
 obtain ⟨la,lc,aa,ac,rfl,_,ha⟩ := h
 have hs' : 1 + sizeL xs <= 1000000000 := by unfold sizeE at hs;exact hs
 have hlen : xs.length <= 1000000000 := by have := qbS xs;omega
 have HIH := Lib.hid ih
 have HA : Hid (ArgsAt w F aa xs) := ha
 have HD : Hid (depthE (.mk k nm n ls xs) = depthL xs + 1) := by show _ = _;conv => lhs;unfold depthE
 have HSM : Hid (∀ i,(h : i < xs.length) -> sizeE xs[i] <= 1000000000) := fun i h => by have := qbW xs _ (List.getElem_mem h);omega
 have hdl : depthL xs <= 1000000000 := by have := depths_size xs;omega
 have HDM : Hid (∀ i,(h : i < xs.length) -> depthE xs[i] <= 1000000000) := fun i h => by have := depthL_mem xs _ (List.getElem_mem h);omega
 have HDT : Hid (∀ i,depthL (xs.take i) <= 1000000000) := fun i => by have h1 := depths_size (xs.take i);have h2 := qeW xs i;omega
 clear ih ha hs hs'
 go_enter Tryz.func28,Tryz.ntmps28
 go_wp2_with fail
 have hb0 : Below w.heap.size w (w.alloc (.cells #[.int .i64 k,.string ⟨nm.toArray⟩,.int .i64 n,.slice la ls.length lc,.slice aa xs.length ac] 25)) := (Below.refl _ _).alloc (Nat.le_refl _) _
 have HA1 := Lib.hid (HA.out.grow hb0)
 have HB0 := Lib.hid hb0
 have c4 : (w.alloc (.cells #[.int .i64 k,.string ⟨nm.toArray⟩,.int .i64 n,.slice la ls.length lc,.slice aa xs.length ac] 25)).cell? ⟨w.heap.size,4,none⟩ = some (.slice aa xs.length ac) := World.cell?_alloc_new _ _ _ 4
 have hwl : w.heap.size < (w.alloc (.cells #[.int .i64 k,.string ⟨nm.toArray⟩,.int .i64 n,.slice la ls.length lc,.slice aa xs.length ac] 25)).heap.size := by rw [World.size_alloc];omega
 have C4 := Lib.hid c4
 clear hb0 HA c4
 generalize w.alloc (.cells #[.int .i64 k,.string ⟨nm.toArray⟩,.int .i64 n,.slice la ls.length lc,.slice aa xs.length ac] 25) = W at *
 go_loopg [3,4] xs.length (fun g v3 v4 wr => RelRD W xs v3 v4 g wr)
 case atStart => exact ⟨0,by omega,by simp [depthL],rfl,Below.refl _ _⟩
 case round =>
  obtain ⟨i,hig,rfl,rfl,hbr⟩ := hrel
  have HBR := Lib.hid hbr
  have HAR := Lib.hid (HA1.out.grow hbr)
  have d4 : wr.cell? ⟨w.heap.size,4,none⟩ = some (.slice aa xs.length ac) := (hbr.cell (p := ⟨w.heap.size,4,none⟩) hwl).trans C4.out
  have hz2 := HDT.out i
  clear hbr HA1 C4
  by_cases hi : i < xs.length
  . obtain ⟨b,o,k',nm',n',la',ll',lc',ab',al',ac',rfl,hrg,hec⟩ := HAR.out.at_ hi
    have HDZ : Hid (depthL (xs.take (i + 1)) = Nat.max (depthL (xs.take i)) (depthE xs[i])) := by show _ = _;rw [qaV (List.getElem?_eq_getElem hi),qfG]
    have HRG := Lib.hid hrg
    have HC : Hid (Calls Tryz.prog 28 #[.agg #[.int .i64 k',.string nm',.int .i64 n',.slice la' ll' lc',.slice ab' al' ac']] wr fun e w'' => e = .returned (.int .i64 (depthE xs[i])) /\ Below wr.heap.size wr w'') :=
     HIH.out xs[i] (List.getElem_mem hi) _ F wr hec (HSM.out i hi)
    have hz1 := HDM.out i hi
    clear hrg hec HAR
    generalize depthE xs[i] = dz at *
    generalize depthL (xs.take i) = dy at *
    have hi0 : (0 : Int) <= (i : Int) := by omega
    have hi1 : (i : Int) < (xs.length : Int) := by omega
    go_wp2_with (refine wpList_load_mid rfl 25 (.tmp 16) rfl b (o + i * 5) rfl [.int .i64 k',.string nm',.int .i64 n',.slice la' ll' lc',.slice ab' al' ac'] _ HRG.out Tryz.underlying25 rfl exprSize ?_)
    refine HC.out.mono ?_
    rintro e w5 ⟨rfl,hb5⟩
    have HB5 := Lib.hid (HBR.out.trans (hb5.mono HBR.out.size))
    clear hb5 HC HBR
    go_wp2_with fail
    all_goals
     go_roundg (xs.length - (i + 1))
     case measure => omega
     case rel => exact ⟨i + 1,by omega,by rw [HDZ.out];simp [Nat.max_def,Int.max_def];split <;> rfl,by simp,HB5.out⟩
  . go_wp2_with fail
    go_ret
    refine ⟨qaM ?_,HB0.out.trans (HBR.out.mono HB0.out.size)⟩
    rw [HD.out,List.take_of_length_le (by omega)]
    simp
def RelRL (W : World) (xs : List E) (v3 : Value) (g : Nat) (wr : World) : Prop :=
 ∃ i,i + g = xs.length /\ v3 = .int .i64 i /\ shortL (xs.take i) = true /\ Below W.heap.size W wr
set_option maxHeartbeats 4000000 in
set_option maxRecDepth 100000 in
theorem rlong_c : ∀ (x : E) (cs : List Value) (F : Nat -> Prop) (w : World),ExprC w F x cs -> sizeE x <= 1000000000 -> entE x <= 9223372036854775807 ->
 Calls Tryz.prog 26 #[.agg cs.toArray] w fun e w' => e = .returned (.bool (!shortE x)) /\ Below w.heap.size w w' := by
 refine qaT ?_
 intro k nm n ls xs ih cs F w h hs he
 unfold ExprC at h
 obtain ⟨la,lc,aa,ac,rfl,_,ha⟩ := h
 have hs' : 1 + sizeL xs <= 1000000000 := by unfold sizeE at hs;exact hs
 have he' : ls.length + entL xs <= 9223372036854775807 := by unfold entE at he;exact he
 have hlen : xs.length <= 1000000000 := by have := qbS xs;omega
 have HIH := Lib.hid ih
 have HA : Hid (ArgsAt w F aa xs) := ha
 have HS : Hid (shortE (.mk k nm n ls xs) = (decide (ls.length <= 4096) && shortL xs)) := by show _ = _;conv => lhs;unfold shortE
 have HSM : Hid (∀ i,(h : i < xs.length) -> sizeE xs[i] <= 1000000000) := fun i h => by have := qbW xs _ (List.getElem_mem h);omega
 have HEM : Hid (∀ i,(h : i < xs.length) -> entE xs[i] <= 9223372036854775807) := fun i h => by have := qdJ xs _ (List.getElem_mem h);omega
 have HFM : Hid (∀ i,(h : i < xs.length) -> shortE xs[i] = false -> shortL xs = false) := fun i h hf => shortL_mem xs _ (List.getElem_mem h) hf
 have hll : ls.length <= 9223372036854775807 := by omega
 clear ih ha hs he hs' he'
 go_enter Tryz.func26,Tryz.ntmps26
 by_cases hl4 : 4096 < ls.length
 . go_wp2_with fail
   go_ret
   exact ⟨qaG (by rw [HS.out,decide_eq_false (by omega)];rfl),(Below.refl _ _).alloc (Nat.le_refl _) _⟩
 . go_wp2_with fail
   have hb0 : Below w.heap.size w (w.alloc (.cells #[.int .i64 k,.string ⟨nm.toArray⟩,.int .i64 n,.slice la ls.length lc,.slice aa xs.length ac] 25)) := (Below.refl _ _).alloc (Nat.le_refl _) _
   have HA1 := Lib.hid (HA.out.grow hb0)
   have HB0 := Lib.hid hb0
   have c4 : (w.alloc (.cells #[.int .i64 k,.string ⟨nm.toArray⟩,.int .i64 n,.slice la ls.length lc,.slice aa xs.length ac] 25)).cell? ⟨w.heap.size,4,none⟩ = some (.slice aa xs.length ac) := World.cell?_alloc_new _ _ _ 4
   have hwl : w.heap.size < (w.alloc (.cells #[.int .i64 k,.string ⟨nm.toArray⟩,.int .i64 n,.slice la ls.length lc,.slice aa xs.length ac] 25)).heap.size := by rw [World.size_alloc];omega
   have C4 := Lib.hid c4
   clear hb0 HA c4
   generalize w.alloc (.cells #[.int .i64 k,.string ⟨nm.toArray⟩,.int .i64 n,.slice la ls.length lc,.slice aa xs.length ac] 25) = W at *
   go_loopg [3] xs.length (fun g v3 wr => RelRL W xs v3 g wr)
   case atStart => exact ⟨0,by omega,rfl,by simp [shortL],Below.refl _ _⟩
   case round =>
    obtain ⟨i,hig,rfl,hfl,hbr⟩ := hrel
    have HFL := Lib.hid hfl
    have HBR := Lib.hid hbr
    have HAR := Lib.hid (HA1.out.grow hbr)
    have d4 : wr.cell? ⟨w.heap.size,4,none⟩ = some (.slice aa xs.length ac) := (hbr.cell (p := ⟨w.heap.size,4,none⟩) hwl).trans C4.out
    clear hbr HA1 C4 hfl
    by_cases hi : i < xs.length
    . obtain ⟨b,o,k',nm',n',la',ll',lc',ab',al',ac',rfl,hrg,hec⟩ := HAR.out.at_ hi
      have HSZ : Hid (shortL (xs.take (i + 1)) = (shortL (xs.take i) && shortE xs[i])) := by show _ = _;rw [qaV (List.getElem?_eq_getElem hi),qfH]
      have HRG := Lib.hid hrg
      have HFM2 := Lib.hid (HFM.out i hi)
      have HC : Hid (Calls Tryz.prog 26 #[.agg #[.int .i64 k',.string nm',.int .i64 n',.slice la' ll' lc',.slice ab' al' ac']] wr fun e w'' => e = .returned (.bool (!shortE xs[i])) /\ Below wr.heap.size wr w'') :=
       HIH.out xs[i] (List.getElem_mem hi) _ F wr hec (HSM.out i hi) (HEM.out i hi)
      clear hrg hec HAR
      generalize shortE xs[i] = z at *
      have hi0 : (0 : Int) <= (i : Int) := by omega
      have hi1 : (i : Int) < (xs.length : Int) := by omega
      cases hz : z
      . subst hz
        go_wp2_with (refine wpList_load_mid rfl 25 (.tmp 18) rfl b (o + i * 5) rfl [.int .i64 k',.string nm',.int .i64 n',.slice la' ll' lc',.slice ab' al' ac'] _ HRG.out Tryz.underlying25 rfl exprSize ?_)
        refine HC.out.mono ?_
        rintro e w5 ⟨rfl,hb5⟩
        have HB5 := Lib.hid (HBR.out.trans (hb5.mono HBR.out.size))
        clear hb5 HC HBR
        go_wp2_with fail
        go_ret
        exact ⟨qaG (by rw [HS.out,HFM2.out trivial,Bool.and_false];rfl),HB0.out.trans (HB5.out.mono HB0.out.size)⟩
      . subst hz
        go_wp2_with (refine wpList_load_mid rfl 25 (.tmp 18) rfl b (o + i * 5) rfl [.int .i64 k',.string nm',.int .i64 n',.slice la' ll' lc',.slice ab' al' ac'] _ HRG.out Tryz.underlying25 rfl exprSize ?_)
        refine HC.out.mono ?_
        rintro e w5 ⟨rfl,hb5⟩
        have HB5 := Lib.hid (HBR.out.trans (hb5.mono HBR.out.size))
        clear hb5 HC HBR
        go_wp2_with fail
        go_roundg (xs.length - (i + 1))
        case measure => omega
        case rel => exact ⟨i + 1,by omega,by simp,by rw [HSZ.out,HFL.out];rfl,HB5.out⟩
    . go_wp2_with fail
      go_ret
      refine ⟨qaG ?_,HB0.out.trans (HBR.out.mono HB0.out.size)⟩
      have := HFL.out
      rw [List.take_of_length_le (by omega)] at this
      rw [HS.out,this,decide_eq_true (by omega)]
      rfl
theorem qeN (c : UInt8) (w : World) : Calls Tryz.prog 79 #[.int .u8 c.toNat] w fun e w' => e = .returned (.bool (isLet c)) /\ w = w' := by
 have hc : c.toNat < 256 := c.toNat_lt
 go_enter Tryz.func79,Tryz.ntmps79
 go_wp2_with fail
 all_goals (go_ret;exact ⟨qaG (by first | (simp [isLet];done) | (rw [Bool.eq_iff_iff];simp [isLet];omega) | (simp [isLet];omega)),rfl⟩)
theorem rdigit_c (c : UInt8) (w : World) : Calls Tryz.prog 80 #[.int .u8 c.toNat] w fun e w' => e = .returned (.bool (isDig c)) /\ w = w' := by
 have hc : c.toNat < 256 := c.toNat_lt
 go_enter Tryz.func80,Tryz.ntmps80
 go_wp2_with fail
 all_goals (go_ret;exact ⟨qaG (by first | (simp [isDig];done) | (rw [Bool.eq_iff_iff];simp [isDig];omega) | (simp [isDig];omega)),rfl⟩)
set_option maxHeartbeats 1000000 in
theorem qaR (n : Int) (w : World) : Calls Tryz.prog 43 #[.int .i64 n] w fun e w' => e = .returned (.bool (litB n)) /\ w = w' := by
 by_cases h0 : 0 <= n
 . go_enter Tryz.func43,Tryz.ntmps43
   go_wp2_with fail
   go_ret
   exact ⟨qaG (by simp [litB,h0]),rfl⟩
 . go_enter Tryz.func43,Tryz.ntmps43
   go_wp2_with fail
   go_ret
   exact ⟨qaG (by simp [litB];omega),rfl⟩
theorem qcM {l : List UInt8} (h : l.length = 0 \/ 16 < l.length \/ (∃ c,l[0]? = some c /\ isLet c = false) \/ runEnd inNm l 0 ≠ l.length) : nameB l = false := by
 unfold nameB
 rw [decide_eq_false_iff_not]
 intro ⟨h1,h2,h3,h4⟩
 rcases h with h | h | ⟨c,hc,hl⟩ | h
 . exact h1 (List.length_eq_zero_iff.1 h)
 . omega
 . rw [h3 c hc] at hl;cases hl
 . exact h h4
theorem inNm_cases (c : UInt8) : inNm c = (isLet c || isDig c || decide (c.toNat = 95)) := rfl
set_option maxHeartbeats 2000000 in
theorem qbP (s : ByteArray) (w : World) : Calls Tryz.prog 42 #[.string s] w fun e w' => e = .returned (.bool (nameB s.data.toList)) /\ w = w' := by
 have hlen := qeB s
 by_cases h0 : s.size = 0
 . have HN := Lib.hid (qcM (l := s.data.toList) (.inl (by omega)))
   go_enter Tryz.func42,Tryz.ntmps42
   go_wp2_with fail
   go_ret
   exact ⟨qaG HN.out.symm,rfl⟩
 . by_cases h16 : 16 < s.size
   . have HN := Lib.hid (qcM (l := s.data.toList) (.inr (.inl (by omega))))
     go_enter Tryz.func42,Tryz.ntmps42
     go_wp2_with fail
     go_ret
     exact ⟨qaG HN.out.symm,rfl⟩
   . have hp : 0 < s.size := by omega
     have hb := byte_at s 0 hp
     cases hl : isLet s[0]
     . have HN := Lib.hid (qcM (l := s.data.toList) (.inr (.inr (.inl ⟨_,hb,hl⟩))))
       clear hb
       go_enter Tryz.func42,Tryz.ntmps42
       go_wp2_with (go_at_call 79;refine (qeN _ _).mono ?_;rintro e w' ⟨rfl,rfl⟩)
       go_ret
       exact ⟨qaG HN.out.symm,rfl⟩
     . have HT : Hid (runEnd inNm s.data.toList 0 = s.data.toList.length -> nameB s.data.toList = true) := by
        intro he
        unfold nameB
        rw [decide_eq_true_iff]
        exact ⟨fun h => by rw [h] at hlen;simp at hlen;omega,by omega,fun c hc => by rw [hb] at hc;injection hc with hc;rw [<- hc];exact hl,he⟩
       have HF : Hid (runEnd inNm s.data.toList 0 ≠ s.data.toList.length -> nameB s.data.toList = false) := fun h => qcM (.inr (.inr (.inr h)))
       have HLEN := Lib.hid hlen
       clear hb hlen
       go_enter Tryz.func42,Tryz.ntmps42
       go_wp2_with (go_at_call 79;refine (qeN _ _).mono ?_;rintro e w' ⟨rfl,rfl⟩)
       clear hl
       go_loop [3] (fun t => RelRun inNm s 0 t) (fun t => s.size - (intOf t).toNat)
       case atStart => exact ⟨0,by omega,rfl,rfl⟩
       case round =>
        obtain ⟨k,hk,rfl,hr⟩ := hrel
        have HR := Lib.hid hr
        clear hr
        by_cases hlt : k < s.size
        . have hbk := byte_at s k hlt
          have HB := Lib.hid hbk
          have HI := Lib.hid (inNm_cases s[k])
          have hc256 : s[k].toNat < 256 := s[k].toNat_lt
          clear hbk
          cases hL : isLet s[k]
          . cases hD : isDig s[k]
            . go_wp2_with (first | (go_at_call 79;refine (qeN _ _).mono ?_;rintro e w' ⟨rfl,rfl⟩) | (go_at_call 80;refine (rdigit_c _ _).mono ?_;rintro e w' ⟨rfl,rfl⟩))
              . rename_i _ hne
                have h95 : ¬ s[k].toNat = 95 := by simp at hne;omega
                have hin : inNm s[k] = false := by rw [HI.out,hL,hD,decide_eq_false h95];rfl
                clear hne h95
                go_ret
                refine ⟨qaG (HF.out ?_).symm,rfl⟩
                rw [<- HR.out,runEnd_stop HB.out hin]
                have := HLEN.out
                omega
              . rename_i _ hne
                have h95 : s[k].toNat = 95 := by simp at hne;omega
                have hin : inNm s[k] = true := by rw [HI.out,decide_eq_true h95];simp
                clear hne h95
                exact ⟨⟨k + 1,by omega,by go_num,by rw [<- HR.out,qeC HB.out hin]⟩,by simp [intOf];omega⟩
            . have hin : Hid (inNm s[k] = true) := by show _ = _;rw [HI.out,hD];simp
              go_wp2_with (first | (go_at_call 79;refine (qeN _ _).mono ?_;rintro e w' ⟨rfl,rfl⟩) | (go_at_call 80;refine (rdigit_c _ _).mono ?_;rintro e w' ⟨rfl,rfl⟩))
              go_round
              case rel => exact ⟨k + 1,by omega,by go_num,by rw [<- HR.out,qeC HB.out hin.out]⟩
              case measure => simp [intOf];omega
          . have hin : Hid (inNm s[k] = true) := by show _ = _;rw [HI.out,hL];simp
            go_wp2_with (first | (go_at_call 79;refine (qeN _ _).mono ?_;rintro e w' ⟨rfl,rfl⟩) | (go_at_call 80;refine (rdigit_c _ _).mono ?_;rintro e w' ⟨rfl,rfl⟩))
            go_round
            case rel => exact ⟨k + 1,by omega,by go_num,by rw [<- HR.out,qeC HB.out hin.out]⟩
            case measure => simp [intOf];omega
        . go_wp2_with fail
          go_ret
          refine ⟨qaG (HT.out ?_).symm,rfl⟩
          have := HLEN.out
          rw [<- HR.out,runEnd_end (by omega)]
          omega
def preB (k : Int) (nm : List UInt8) (n : Int) (ls : List Int) (xs : List E) : Bool :=
 if k = 1 then litB n && nm.isEmpty && ls.isEmpty && xs.isEmpty else if k = 2 then decide (n = 0) && nm.isEmpty && xs.isEmpty
  else if k = 3 then decide (n = 0) && nameB nm && ls.isEmpty else if k = 4 then decide (n = 0) && nameB nm && ls.isEmpty && xs.isEmpty else false
theorem formE_pre (k : Int) (nm : List UInt8) (n : Int) (ls : List Int) (xs : List E) : formE (.mk k nm n ls xs) = (ls.all litB && preB k nm n ls xs && formL xs) := by
 conv => lhs;unfold formE
 rfl
theorem nameB_empty {l : List UInt8} (h : nameB l = true) : l.isEmpty = false := by
 cases l with
 | nil => simp [nameB] at h
 | cons _ _ => rfl
set_option maxHeartbeats 8000000 in
set_option maxRecDepth 100000 in
theorem rform_c : ∀ (x : E) (cs : List Value) (F : Nat -> Prop) (w : World),ExprC w F x cs -> sizeE x <= 1000000000 -> entE x <= 9223372036854775807 ->
 Calls Tryz.prog 25 #[.agg cs.toArray] w fun e w' => e = .returned (.bool (formE x)) /\ Below w.heap.size w w' := by
 refine qaT ?_
 intro k nm n ls xs ih cs F w h hs he
 unfold ExprC at h
 obtain ⟨la,lc,aa,ac,rfl,hi,ha⟩ := h
 have hs' : 1 + sizeL xs <= 1000000000 := by unfold sizeE at hs;exact hs
 have he' : ls.length + entL xs <= 9223372036854775807 := by unfold entE at he;exact he
 have hlen : xs.length <= 1000000000 := by have := qbS xs;omega
 have HIH := Lib.hid ih
 have HA : Hid (ArgsAt w F aa xs) := ha
 have HI := Lib.hid hi
 have HFE := Lib.hid (formE_pre k nm n ls xs)
 have HSM : Hid (∀ i,(h : i < xs.length) -> sizeE xs[i] <= 1000000000) := fun i h => by have := qbW xs _ (List.getElem_mem h);omega
 have HEM : Hid (∀ i,(h : i < xs.length) -> entE xs[i] <= 9223372036854775807) := fun i h => by have := qdJ xs _ (List.getElem_mem h);omega
 have hll : ls.length <= 9223372036854775807 := by omega
 clear ih ha hs he hs' he' hi
 go_enter Tryz.func25,Tryz.ntmps25
 go_upto_region 1 with fail
 have hb0 : Below w.heap.size w (w.alloc (.cells #[.int .i64 k,.string ⟨nm.toArray⟩,.int .i64 n,.slice la ls.length lc,.slice aa xs.length ac] 25)) := (Below.refl _ _).alloc (Nat.le_refl _) _
 have HI1 := Lib.hid (HI.out.mono (fun b hF hlt => ⟨hF,hb0.block b hlt⟩))
 have HA1 := Lib.hid (HA.out.grow hb0)
 have HB0 := Lib.hid hb0
 clear hb0 HI HA
 have c0 : (w.alloc (.cells #[.int .i64 k,.string ⟨nm.toArray⟩,.int .i64 n,.slice la ls.length lc,.slice aa xs.length ac] 25)).cell? ⟨w.heap.size,0,none⟩ = some (.int .i64 k) := World.cell?_alloc_new _ _ _ 0
 have c1 : (w.alloc (.cells #[.int .i64 k,.string ⟨nm.toArray⟩,.int .i64 n,.slice la ls.length lc,.slice aa xs.length ac] 25)).cell? ⟨w.heap.size,1,none⟩ = some (.string ⟨nm.toArray⟩) := World.cell?_alloc_new _ _ _ 1
 have c2 : (w.alloc (.cells #[.int .i64 k,.string ⟨nm.toArray⟩,.int .i64 n,.slice la ls.length lc,.slice aa xs.length ac] 25)).cell? ⟨w.heap.size,2,none⟩ = some (.int .i64 n) := World.cell?_alloc_new _ _ _ 2
 have c3 : (w.alloc (.cells #[.int .i64 k,.string ⟨nm.toArray⟩,.int .i64 n,.slice la ls.length lc,.slice aa xs.length ac] 25)).cell? ⟨w.heap.size,3,none⟩ = some (.slice la ls.length lc) := World.cell?_alloc_new _ _ _ 3
 have c4 : (w.alloc (.cells #[.int .i64 k,.string ⟨nm.toArray⟩,.int .i64 n,.slice la ls.length lc,.slice aa xs.length ac] 25)).cell? ⟨w.heap.size,4,none⟩ = some (.slice aa xs.length ac) := World.cell?_alloc_new _ _ _ 4
 have hwl : w.heap.size < (w.alloc (.cells #[.int .i64 k,.string ⟨nm.toArray⟩,.int .i64 n,.slice la ls.length lc,.slice aa xs.length ac] 25)).heap.size := by rw [World.size_alloc];omega
 go_simp
 generalize w.alloc (.cells #[.int .i64 k,.string ⟨nm.toArray⟩,.int .i64 n,.slice la ls.length lc,.slice aa xs.length ac] 25) = W at *
 by_cases h1 : k = 1
 . subst h1
   have HP : Hid (formE (.mk 1 nm n ls xs) = (ls.all litB && (litB n && nm.isEmpty && ls.isEmpty && xs.isEmpty) && formL xs)) := HFE.out
   clear HFE
   rcases List.eq_nil_or_concat xs with rfl | ⟨l0,a0,hcat⟩
   rotate_left
   . have hxs : 0 < xs.length := by rw [hcat];simp
     have hxe : xs.isEmpty = false := by rw [hcat];simp
     clear hcat
     clear HI1 HA1 HIH HSM HEM
     go_wp2_with (first | (go_at_call 43;refine (qaR _ _).mono ?_;rintro e w' ⟨rfl,rfl⟩) | (go_at_call 42;refine (qbP _ _).mono ?_;rintro e w' ⟨rfl,rfl⟩))
     go_ret
     exact ⟨qaG (by rw [HP.out];simp [hxe]),HB0.out⟩
   rcases List.eq_nil_or_concat ls with rfl | ⟨l1,a1,hcat⟩
   rotate_left
   . have hls : 0 < ls.length := by rw [hcat];simp
     have hle : ls.isEmpty = false := by rw [hcat];simp
     clear hcat
     clear HI1 HA1 HIH HSM HEM
     go_wp2_with (first | (go_at_call 43;refine (qaR _ _).mono ?_;rintro e w' ⟨rfl,rfl⟩) | (go_at_call 42;refine (qbP _ _).mono ?_;rintro e w' ⟨rfl,rfl⟩))
     go_ret
     exact ⟨qaG (by rw [HP.out];simp [hle]),HB0.out⟩
   by_cases hnm : nm = []
   rotate_left
   . have HNM : Hid (nm.isEmpty = false) := by show _ = _;simp [hnm]
     clear HI1 HA1 HIH HSM HEM
     go_wp2_with (first | (go_at_call 43;refine (qaR _ _).mono ?_;rintro e w' ⟨rfl,rfl⟩) | (go_at_call 42;refine (qbP _ _).mono ?_;rintro e w' ⟨rfl,rfl⟩))
     go_ret
     exact ⟨qaG (by rw [HP.out];simp [HNM.out]),HB0.out⟩
   subst hnm
   cases hlt : litB n
   . have HLT := Lib.hid hlt
     clear HI1 HA1 HIH HSM HEM
     go_wp2_with (first | (go_at_call 43;refine (qaR _ _).mono ?_;rintro e w' ⟨rfl,rfl⟩) | (go_at_call 42;refine (qbP _ _).mono ?_;rintro e w' ⟨rfl,rfl⟩))
     go_ret
     exact ⟨qaG (by rw [HP.out];simp [HLT.out]),HB0.out⟩
   clear HI1 HA1 HIH HSM HEM
   go_wp2_with (first | (go_at_call 43;refine (qaR _ _).mono ?_;rintro e w' ⟨rfl,rfl⟩) | (go_at_call 42;refine (qbP _ _).mono ?_;rintro e w' ⟨rfl,rfl⟩))
   refine wp_loop_rounds 1 ?_
   rw [rounds_succ]
   go_wp2_with fail
   refine wp_loop_rounds 1 ?_
   rw [rounds_succ]
   go_wp2_with fail
   go_ret
   exact ⟨qaG (by rw [HP.out];simp [hlt,formL]),HB0.out⟩
 by_cases h2 : k = 2
 . subst h2
   have HP : Hid (formE (.mk 2 nm n ls xs) = (ls.all litB && (decide (n = 0) && nm.isEmpty && xs.isEmpty) && formL xs)) := HFE.out
   clear HFE
   rcases List.eq_nil_or_concat xs with rfl | ⟨l0,a0,hcat⟩
   rotate_left
   . have hxs : 0 < xs.length := by rw [hcat];simp
     have hxe : xs.isEmpty = false := by rw [hcat];simp
     clear hcat
     clear HI1 HA1 HIH HSM HEM
     go_wp2_with (first | (go_at_call 43;refine (qaR _ _).mono ?_;rintro e w' ⟨rfl,rfl⟩) | (go_at_call 42;refine (qbP _ _).mono ?_;rintro e w' ⟨rfl,rfl⟩))
     go_ret
     exact ⟨qaG (by rw [HP.out];simp [hxe]),HB0.out⟩
   by_cases hn0 : n = 0
   rotate_left
   . have HN0 : Hid (decide (n = 0) = false) := by show _ = _;simp [hn0]
     clear HI1 HA1 HIH HSM HEM
     go_wp2_with (first | (go_at_call 43;refine (qaR _ _).mono ?_;rintro e w' ⟨rfl,rfl⟩) | (go_at_call 42;refine (qbP _ _).mono ?_;rintro e w' ⟨rfl,rfl⟩))
     go_ret
     exact ⟨qaG (by rw [HP.out];simp [HN0.out]),HB0.out⟩
   subst hn0
   by_cases hnm : nm = []
   rotate_left
   . have HNM : Hid (nm.isEmpty = false) := by show _ = _;simp [hnm]
     clear HI1 HA1 HIH HSM HEM
     go_wp2_with (first | (go_at_call 43;refine (qaR _ _).mono ?_;rintro e w' ⟨rfl,rfl⟩) | (go_at_call 42;refine (qbP _ _).mono ?_;rintro e w' ⟨rfl,rfl⟩))
     go_ret
     exact ⟨qaG (by rw [HP.out];simp [HNM.out]),HB0.out⟩
   subst hnm
   clear HA1 HIH HSM HEM
   go_wp2_with (first | (go_at_call 43;refine (qaR _ _).mono ?_;rintro e w' ⟨rfl,rfl⟩) | (go_at_call 42;refine (qbP _ _).mono ?_;rintro e w' ⟨rfl,rfl⟩))
   go_loopg [4] ls.length (fun g v4 wr => RelList2 ls v4 g /\ wr = W)
   case atStart => exact ⟨⟨0,by omega,rfl,by simp⟩,rfl⟩
   case round =>
    obtain ⟨⟨i,hig,rfl,hall⟩,rfl⟩ := hrel
    have HALL := Lib.hid hall
    clear hall
    by_cases hi : i < ls.length
    . obtain ⟨b,o,rfl,_,hcell⟩ := HI1.out (by omega)
      have p := hcell i hi
      have hi0 : (0 : Int) <= (i : Int) := by omega
      have hi1 : (i : Int) < (ls.length : Int) := by omega
      have HALL2 := Lib.hid (take_all (p := litB) hi)
      have HALF : Hid (litB (ls.getD i 0) = false -> ls.all litB = false) := all_false hi
      clear hcell
      generalize ls.getD i 0 = z at *
      cases hz : litB z
      . go_wp2_with (first | (go_at_call 43;refine (qaR _ _).mono ?_;rintro e w' ⟨rfl,rfl⟩) | (go_at_call 42;refine (qbP _ _).mono ?_;rintro e w' ⟨rfl,rfl⟩))
        go_ret
        exact ⟨qaG (by rw [HP.out,HALF.out hz];rfl),HB0.out⟩
      . go_wp2_with (first | (go_at_call 43;refine (qaR _ _).mono ?_;rintro e w' ⟨rfl,rfl⟩) | (go_at_call 42;refine (qbP _ _).mono ?_;rintro e w' ⟨rfl,rfl⟩))
        go_roundg (ls.length - (i + 1))
        case measure => omega
        case rel => exact ⟨⟨i + 1,by omega,by simp,by rw [HALL2.out,HALL.out,hz];rfl⟩,rfl⟩
    . have hall : ls.all litB = true := by
       have := HALL.out
       rwa [List.take_of_length_le (by omega)] at this
      have HAL := Lib.hid hall
      clear hall HALL HI1
      go_wp2_with fail
      refine wp_loop_rounds 1 ?_
      rw [rounds_succ]
      go_wp2_with fail
      go_ret
      exact ⟨qaG (by rw [HP.out,HAL.out];simp [formL]),HB0.out⟩
 by_cases h3 : k = 3
 . subst h3
   have HP : Hid (formE (.mk 3 nm n ls xs) = (ls.all litB && (decide (n = 0) && nameB nm && ls.isEmpty) && formL xs)) := HFE.out
   clear HFE
   rcases List.eq_nil_or_concat ls with rfl | ⟨l1,a1,hcat⟩
   rotate_left
   . have hls : 0 < ls.length := by rw [hcat];simp
     have hle : ls.isEmpty = false := by rw [hcat];simp
     clear hcat
     clear HI1 HA1 HIH HSM HEM
     go_wp2_with (first | (go_at_call 43;refine (qaR _ _).mono ?_;rintro e w' ⟨rfl,rfl⟩) | (go_at_call 42;refine (qbP _ _).mono ?_;rintro e w' ⟨rfl,rfl⟩))
     go_ret
     exact ⟨qaG (by rw [HP.out];simp [hle]),HB0.out⟩
   by_cases hn0 : n = 0
   rotate_left
   . have HN0 : Hid (decide (n = 0) = false) := by show _ = _;simp [hn0]
     clear HI1 HA1 HIH HSM HEM
     go_wp2_with (first | (go_at_call 43;refine (qaR _ _).mono ?_;rintro e w' ⟨rfl,rfl⟩) | (go_at_call 42;refine (qbP _ _).mono ?_;rintro e w' ⟨rfl,rfl⟩))
     go_ret
     exact ⟨qaG (by rw [HP.out];simp [HN0.out]),HB0.out⟩
   subst hn0
   by_cases hnm : nm = []
   . subst hnm
     have HNM : Hid (nameB [] = false) := by show _ = _;simp [nameB]
     clear HI1 HA1 HIH HSM HEM
     go_wp2_with (first | (go_at_call 43;refine (qaR _ _).mono ?_;rintro e w' ⟨rfl,rfl⟩) | (go_at_call 42;refine (qbP _ _).mono ?_;rintro e w' ⟨rfl,rfl⟩))
     go_ret
     exact ⟨qaG (by rw [HP.out];simp [HNM.out]),HB0.out⟩
   cases hnb : nameB nm
   . have HNM := Lib.hid hnb
     have hnb' : nameB (⟨nm.toArray⟩ : ByteArray).data.toList = false := hnb
     clear HI1 HA1 HIH HSM HEM
     go_wp2_with (first | (go_at_call 43;refine (qaR _ _).mono ?_;rintro e w' ⟨rfl,rfl⟩) | (go_at_call 42;refine (qbP _ _).mono ?_;rintro e w' ⟨rfl,rfl⟩))
     go_ret
     exact ⟨qaG (by rw [HP.out];simp [HNM.out]),HB0.out⟩
   have hnb' : nameB (⟨nm.toArray⟩ : ByteArray).data.toList = true := hnb
   have hne : nm.isEmpty = false := nameB_empty hnb
   have hl0 : litB 0 = true := rfl
   clear HI1
   have HFM : Hid (∀ i,(h : i < xs.length) -> formE xs[i] = false -> formL xs = false) := fun i h hf => formL_mem xs _ (List.getElem_mem h) hf
   go_wp2_with (first | (go_at_call 43;refine (qaR _ _).mono ?_;rintro e w' ⟨rfl,rfl⟩) | (go_at_call 42;refine (qbP _ _).mono ?_;rintro e w' ⟨rfl,rfl⟩))
   refine wp_loop_rounds 1 ?_
   rw [rounds_succ]
   go_wp2_with fail
   have C4 := Lib.hid c4
   clear c0 c1 c2 c3 c4
   go_loopg [5] xs.length (fun g v wr => RelForm W xs v g wr)
   case atStart => exact ⟨0,by omega,rfl,by simp [formL],Below.refl _ _⟩
   case round =>
    obtain ⟨i,hig,rfl,hfl,hbr⟩ := hrel
    have HFL := Lib.hid hfl
    have HBR := Lib.hid hbr
    have HAR := Lib.hid (HA1.out.grow hbr)
    have d4 : wr.cell? ⟨w.heap.size,4,none⟩ = some (.slice aa xs.length ac) := (hbr.cell (p := ⟨w.heap.size,4,none⟩) hwl).trans C4.out
    clear hbr HA1 hfl C4
    by_cases hi : i < xs.length
    . obtain ⟨b,o,k',nm',n',la',ll',lc',ab',al',ac',rfl,hrg,hec⟩ := HAR.out.at_ hi
      have HSZ : Hid (formL (xs.take (i + 1)) = (formL (xs.take i) && formE xs[i])) := by show _ = _;rw [qaV (List.getElem?_eq_getElem hi),formL_snoc]
      have HRG := Lib.hid hrg
      have HFM2 := Lib.hid (HFM.out i hi)
      have HC : Hid (Calls Tryz.prog 25 #[.agg #[.int .i64 k',.string nm',.int .i64 n',.slice la' ll' lc',.slice ab' al' ac']] wr fun e w'' => e = .returned (.bool (formE xs[i])) /\ Below wr.heap.size wr w'') := HIH.out xs[i] (List.getElem_mem hi) _ F wr hec (HSM.out i hi) (HEM.out i hi)
      clear hrg hec HAR
      generalize formE xs[i] = z at *
      have hi0 : (0 : Int) <= (i : Int) := by omega
      have hi1 : (i : Int) < (xs.length : Int) := by omega
      cases hz : z
      . subst hz
        go_wp2_with (refine wpList_load_mid rfl 25 (.tmp 99) rfl b (o + i * 5) rfl [.int .i64 k',.string nm',.int .i64 n',.slice la' ll' lc',.slice ab' al' ac'] _ HRG.out Tryz.underlying25 rfl exprSize ?_)
        refine HC.out.mono ?_
        rintro e w5 ⟨rfl,hb5⟩
        have HB5 := Lib.hid (HBR.out.trans (hb5.mono HBR.out.size))
        clear hb5 HC HBR
        go_wp2_with fail
        go_ret
        exact ⟨qaG (by rw [HP.out,HFM2.out trivial,Bool.and_false]),HB0.out.trans (HB5.out.mono HB0.out.size)⟩
      . subst hz
        go_wp2_with (refine wpList_load_mid rfl 25 (.tmp 99) rfl b (o + i * 5) rfl [.int .i64 k',.string nm',.int .i64 n',.slice la' ll' lc',.slice ab' al' ac'] _ HRG.out Tryz.underlying25 rfl exprSize ?_)
        refine HC.out.mono ?_
        rintro e w5 ⟨rfl,hb5⟩
        have HB5 := Lib.hid (HBR.out.trans (hb5.mono HBR.out.size))
        clear hb5 HC HBR
        go_wp2_with fail
        go_roundg (xs.length - (i + 1))
        case measure => omega
        case rel => exact ⟨i + 1,by omega,by simp,by rw [HSZ.out,HFL.out];rfl,HB5.out⟩
    . go_wp2_with fail
      go_ret
      refine ⟨qaG ?_,HB0.out.trans (HBR.out.mono HB0.out.size)⟩
      have := HFL.out
      rw [List.take_of_length_le (by omega)] at this
      rw [HP.out,this]
      simp [hnb]
 by_cases h4 : k = 4
 . subst h4
   have HP : Hid (formE (.mk 4 nm n ls xs) = (ls.all litB && (decide (n = 0) && nameB nm && ls.isEmpty && xs.isEmpty) && formL xs)) := HFE.out
   clear HFE
   rcases List.eq_nil_or_concat xs with rfl | ⟨l0,a0,hcat⟩
   rotate_left
   . have hxs : 0 < xs.length := by rw [hcat];simp
     have hxe : xs.isEmpty = false := by rw [hcat];simp
     clear hcat
     clear HI1 HA1 HIH HSM HEM
     go_wp2_with (first | (go_at_call 43;refine (qaR _ _).mono ?_;rintro e w' ⟨rfl,rfl⟩) | (go_at_call 42;refine (qbP _ _).mono ?_;rintro e w' ⟨rfl,rfl⟩))
     go_ret
     exact ⟨qaG (by rw [HP.out];simp [hxe]),HB0.out⟩
   rcases List.eq_nil_or_concat ls with rfl | ⟨l1,a1,hcat⟩
   rotate_left
   . have hls : 0 < ls.length := by rw [hcat];simp
     have hle : ls.isEmpty = false := by rw [hcat];simp
     clear hcat
     clear HI1 HA1 HIH HSM HEM
     go_wp2_with (first | (go_at_call 43;refine (qaR _ _).mono ?_;rintro e w' ⟨rfl,rfl⟩) | (go_at_call 42;refine (qbP _ _).mono ?_;rintro e w' ⟨rfl,rfl⟩))
     go_ret
     exact ⟨qaG (by rw [HP.out];simp [hle]),HB0.out⟩
   by_cases hn0 : n = 0
   rotate_left
   . have HN0 : Hid (decide (n = 0) = false) := by show _ = _;simp [hn0]
     clear HI1 HA1 HIH HSM HEM
     go_wp2_with (first | (go_at_call 43;refine (qaR _ _).mono ?_;rintro e w' ⟨rfl,rfl⟩) | (go_at_call 42;refine (qbP _ _).mono ?_;rintro e w' ⟨rfl,rfl⟩))
     go_ret
     exact ⟨qaG (by rw [HP.out];simp [HN0.out]),HB0.out⟩
   subst hn0
   by_cases hnm : nm = []
   . subst hnm
     have HNM : Hid (nameB [] = false) := by show _ = _;simp [nameB]
     clear HI1 HA1 HIH HSM HEM
     go_wp2_with (first | (go_at_call 43;refine (qaR _ _).mono ?_;rintro e w' ⟨rfl,rfl⟩) | (go_at_call 42;refine (qbP _ _).mono ?_;rintro e w' ⟨rfl,rfl⟩))
     go_ret
     exact ⟨qaG (by rw [HP.out];simp [HNM.out]),HB0.out⟩
   cases hnb : nameB nm
   . have HNM := Lib.hid hnb
     have hnb' : nameB (⟨nm.toArray⟩ : ByteArray).data.toList = false := hnb
     clear HI1 HA1 HIH HSM HEM
     go_wp2_with (first | (go_at_call 43;refine (qaR _ _).mono ?_;rintro e w' ⟨rfl,rfl⟩) | (go_at_call 42;refine (qbP _ _).mono ?_;rintro e w' ⟨rfl,rfl⟩))
     go_ret
     exact ⟨qaG (by rw [HP.out];simp [HNM.out]),HB0.out⟩
   have hnb' : nameB (⟨nm.toArray⟩ : ByteArray).data.toList = true := hnb
   have hne : nm.isEmpty = false := nameB_empty hnb
   have hl0 : litB 0 = true := rfl
   clear HI1 HA1 HIH HSM HEM
   go_wp2_with (first | (go_at_call 43;refine (qaR _ _).mono ?_;rintro e w' ⟨rfl,rfl⟩) | (go_at_call 42;refine (qbP _ _).mono ?_;rintro e w' ⟨rfl,rfl⟩))
   refine wp_loop_rounds 1 ?_
   rw [rounds_succ]
   go_wp2_with fail
   refine wp_loop_rounds 1 ?_
   rw [rounds_succ]
   go_wp2_with fail
   go_ret
   exact ⟨qaG (by rw [HP.out];simp [hnb,formL]),HB0.out⟩
 have HP : Hid (formE (.mk k nm n ls xs) = false) := by show _ = _;rw [HFE.out];simp [preB,h1,h2,h3,h4]
 clear HFE HI1 HA1 HIH HSM HEM
 by_cases hk : k < 1
 . go_wp2_with fail
   go_ret
   exact ⟨qaG HP.out.symm,HB0.out⟩
 . go_wp2_with fail
   go_ret
   exact ⟨qaG HP.out.symm,HB0.out⟩
theorem encode_digit (d : Nat) (h : d < 10) : Utf8.encode (48 + (d : Int)) = ⟨#[UInt8.ofNat (48 + d)]⟩ := by
 have hv : Utf8.valid (48 + (d : Int)) = true := by unfold Utf8.valid;simp;omega
 unfold Utf8.encode
 have ht : (48 + (d : Int)).toNat = 48 + d := by omega
 simp only [hv,if_true,ht]
 rw [if_pos (by omega)]
theorem encode_size (d : Int) : (Utf8.encode d).size <= 4 := by
 unfold Utf8.encode
 dsimp only
 generalize (if Utf8.valid d = true then d.toNat else Utf8.runeError) = c
 split
 . show 1 <= 4;omega
 . split
   . show 2 <= 4;omega
   . split
     . show 3 <= 4;omega
     . show 4 <= 4;omega
theorem enc_eq (x : Int) (d : Nat) (h : d < 10) (hx : x = 48 + (d : Int)) : Utf8.encode x = ⟨[UInt8.ofNat (48 + d)].toArray⟩ := by
 subst hx
 exact encode_digit d h
def RelDigL (N : Nat) (v0 v3 : Value) (w w' : World) : Prop :=
 ∃ (m : Nat) (t : List UInt8),m <= N /\ v0 = .int .i64 m /\ v3 = .string ⟨t.toArray⟩ /\ Lib.decDigits N = (if m < 10 then [] else Lib.decDigits (m / 10)) ++ t /\ w' = w
theorem dec_step {m : Nat} (h : ¬ m < 10) : Lib.decDigits m = Lib.decDigits (m / 10) ++ [UInt8.ofNat (48 + m % 10)] := by rw [Lib.decDigits,dif_neg h]
theorem str_eq {a b : ByteArray} (h : a = b) : Value.string a = .string b := by rw [h]
set_option maxHeartbeats 2000000 in
theorem digits_c (n : Int) (w : World) (h0 : 0 <= n) (h1 : n <= 9999999) : Calls Tryz.prog 44 #[.int .i64 n] w fun e w' => e = .returned (.string ⟨(Lib.itoa n).toArray⟩) /\ w' = w := by
 obtain ⟨N,rfl⟩ : ∃ N : Nat,n = N := ⟨n.toNat,by omega⟩
 have HL : Hid ((Lib.decDigits N).length <= 21) := by show _ <= _;rw [<- Lib.itoa_nonneg];exact Lib.itoa_length_le _ (by omega) (by omega)
 have HI := Lib.hid (Lib.itoa_nonneg N)
 go_enter Tryz.func44,Tryz.ntmps44
 go_wp2_with fail
 go_loopw [0,3] (fun v0 v3 wr => RelDigL N v0 v3 w wr) (fun v0 _ _ => (intOf v0).toNat)
 case atStart =>
  refine ⟨N,[UInt8.ofNat (48 + N % 10)],Nat.le_refl _,rfl,?_,?_,rfl⟩
  . exact str_eq (enc_eq _ _ (by omega) (by omega))
  . by_cases h : N < 10
    . rw [if_pos h,Lib.decDigits_one h,Nat.mod_eq_of_lt h];rfl
    . rw [if_neg h];exact dec_step h
 case round =>
  obtain ⟨m,t,hm,rfl,rfl,hd,rfl⟩ := hrel
  have hl := congrArg List.length hd
  rw [List.length_append] at hl
  have hl2 : t.length <= 21 := by have := HL.out;omega
  have HD := Lib.hid hd
  clear hd hl
  by_cases h10 : 10 <= m
  . have hmi : Hid (¬ m < 10) := by show ¬ _;omega
    have hmN : Hid (m <= N) := hm
    have hmz : m <= 9999999 := by omega
    clear HL HI hm h1 h0
    go_wp2_with fail
    . rename_i hbig
      exfalso
      have := encode_size (48 + (m : Int) / 10 % 10)
      omega
    . refine ⟨⟨m / 10,UInt8.ofNat (48 + m / 10 % 10) :: t,by have := hmN.out;omega,by simp,?_,?_,rfl⟩,by simp [intOf];omega⟩
      . refine str_eq ?_
        rw [enc_eq _ (m / 10 % 10) (by omega) (by omega)]
        exact qbV [UInt8.ofNat (48 + m / 10 % 10)] t
      . rw [HD.out,if_neg hmi.out]
        by_cases h : m / 10 < 10
        . rw [if_pos h,Lib.decDigits_one h,Nat.mod_eq_of_lt h];rfl
        . rw [if_neg h,dec_step h,List.append_assoc];rfl
  . go_wp2_with fail
    go_ret
    refine ⟨ret_str ?_,rfl⟩
    rw [HI.out,HD.out,if_pos (by omega)]
    rfl
theorem map_getElem {α β : Type} (f : α -> β) (l : List α) (i : Nat) (h : i < l.length) : (l.map f)[i]? = some (f l[i]) := by
 rw [List.getElem?_map,List.getElem?_eq_getElem h];rfl
theorem sep_step {α : Type} (f : α -> List UInt8) (l : List α) (i : Nat) (h : i < l.length) : sepL ((l.map f).take (i + 1)) = sepL ((l.map f).take i) ++ ((if i = 0 then [] else [44,32]) ++ f l[i]) := by
 rw [qaV (map_getElem f l i h),sepL_snoc]
 by_cases h0 : i = 0
 . subst h0;simp
 . rw [if_neg h0,if_neg]
   intro hn
   rcases List.take_eq_nil_iff.1 hn with h1 | h1
   . exact h0 h1
   . rw [List.map_eq_nil_iff] at h1
     rw [h1] at h
     simp at h
theorem nodeB_two {nm : List UInt8} {n : Int} {ls : List Int} {xs : List E} (h : nodeB (.mk 2 nm n ls xs) = true) : xs = [] := by
 simp [nodeB] at h
 exact h.2.2
theorem nodeB_twoN {nm : List UInt8} {n : Int} {ls : List Int} {xs : List E} (h : nodeB (.mk 2 nm n ls xs) = true) : nm = [] := by
 simp [nodeB] at h
 exact h.2.1.2
theorem nodeB_three {nm : List UInt8} {n : Int} {ls : List Int} {xs : List E} (h : nodeB (.mk 3 nm n ls xs) = true) : ls = [] := by
 simp [nodeB] at h
 exact h.2.2
def RelTI (W : World) (ls : List Int) (v3 v5 : Value) (g : Nat) (wr : World) : Prop :=
 ∃ i,i + g = ls.length /\ v5 = .int .i64 i /\ v3 = .string ⟨([91] ++ sepL ((ls.map Lib.itoa).take i)).toArray⟩ /\ wr = W
def RelTA (W : World) (nm : List UInt8) (xs : List E) (v3 v6 : Value) (g : Nat) (wr : World) : Prop :=
 ∃ i,i + g = xs.length /\ v6 = .int .i64 i /\ v3 = .string ⟨(nm ++ [40] ++ sepL ((xs.map textE).take i)).toArray⟩ /\ Below W.heap.size W wr
set_option maxHeartbeats 4000000 in
set_option maxRecDepth 100000 in
theorem rtext_c : ∀ (x : E) (cs : List Value) (F : Nat -> Prop) (w : World),ExprC w F x cs -> formE x = true -> sizeE x <= 1000000000 -> entE x <= 1000000000 ->
 Calls Tryz.prog 29 #[.agg cs.toArray] w fun e w' => e = .returned (.string ⟨(textE x).toArray⟩) /\ Below w.heap.size w w' := by
 refine qaT ?_
 intro k nm n ls xs ih cs F w h hf hs he
 have htl := text_len _ hf
 unfold ExprC at h
 obtain ⟨la,lc,aa,ac,rfl,hi,ha⟩ := h
 obtain ⟨hnb,hfl⟩ := formE_mk hf
 have hs' : 1 + sizeL xs <= 1000000000 := by unfold sizeE at hs;exact hs
 have he' : ls.length + entL xs <= 1000000000 := by unfold entE at he;exact he
 have hlen : xs.length <= 1000000000 := by have := qbS xs;omega
 have hll : ls.length <= 1000000000 := by omega
 have HIH : Hid (∀ (i : Nat) (h : i < xs.length) (cs' : List Value) (w' : World),ExprC w' F xs[i] cs' -> Calls Tryz.prog 29 #[.agg cs'.toArray] w' fun e w'' => e = .returned (.string ⟨(textE xs[i]).toArray⟩) /\ Below w'.heap.size w' w'') := by
  intro i h cs' w' hec'
  exact ih _ (List.getElem_mem h) cs' F w' hec' (formL_all hfl _ (List.getElem_mem h)) (by have := qbW xs _ (List.getElem_mem h);omega) (by have := qdJ xs _ (List.getElem_mem h);omega)
 have HA : Hid (ArgsAt w F aa xs) := ha
 have HI := Lib.hid hi
 have HTX : Hid (textE (.mk k nm n ls xs) = if k = 1 then Lib.itoa n else if k = 2 then [91] ++ sepL (ls.map Lib.itoa) ++ [93] else if k = 4 then nm else if k = 3 then nm ++ [40] ++ sepL (textL xs) ++ [41] else []) := by show _ = _;conv => lhs;unfold textE
 have htl2 : (textE (.mk k nm n ls xs)).length <= 100000000000 := by omega
 have kc := nodeB_kind hnb
 have HNB := Lib.hid hnb
 clear ih ha hi htl hs he hs' he' hfl hf hnb
 have hb0 : Below w.heap.size w (w.alloc (.cells #[.int .i64 k,.string ⟨nm.toArray⟩,.int .i64 n,.slice la ls.length lc,.slice aa xs.length ac] 25)) := (Below.refl _ _).alloc (Nat.le_refl _) _
 have HI1 := Lib.hid (HI.out.mono (fun b hF hlt => ⟨hF,hb0.block b hlt⟩))
 have HA1 := Lib.hid (HA.out.grow hb0)
 have HB0 := Lib.hid hb0
 clear hb0 HI HA
 have hR : (w.alloc (.cells #[.int .i64 k,.string ⟨nm.toArray⟩,.int .i64 n,.slice la ls.length lc,.slice aa xs.length ac] 25)).heap[w.heap.size]? = some (.cells #[.int .i64 k,.string ⟨nm.toArray⟩,.int .i64 n,.slice la ls.length lc,.slice aa xs.length ac] 25 (0,0)) := heap_alloc_new _ _
 have hwl : w.heap.size < (w.alloc (.cells #[.int .i64 k,.string ⟨nm.toArray⟩,.int .i64 n,.slice la ls.length lc,.slice aa xs.length ac] 25)).heap.size := by rw [World.size_alloc];omega
 obtain ⟨c0,c1,c2,c3,c4⟩ := cells5 hR
 clear hR
 go_enter Tryz.func29,Tryz.ntmps29
 go_upto_region 1 with fail
 go_simp
 generalize w.alloc (.cells #[.int .i64 k,.string ⟨nm.toArray⟩,.int .i64 n,.slice la ls.length lc,.slice aa xs.length ac] 25) = W at *
 rcases kc with rfl | rfl | rfl | rfl
 . have HT1 : Hid (textE (.mk 1 nm n ls xs) = Lib.itoa n) := by show _ = _;rw [HTX.out];rfl
   obtain ⟨hn0,hn1⟩ := nodeB_n HNB.out rfl
   clear HIH HTX HA1 HI1 HNB
   go_wp2_with (go_at_call 44;refine (digits_c _ _ hn0 hn1).mono ?_;rintro e w' ⟨rfl,rfl⟩)
   go_ret
   exact ⟨ret_str (by rw [HT1.out]),HB0.out⟩
 . have HT1 : Hid (textE (.mk 2 nm n ls xs) = [91] ++ sepL (ls.map Lib.itoa) ++ [93]) := by show _ = _;rw [HTX.out];rfl
   rw [HT1.out] at htl2
   simp only [List.length_append,List.length_cons,List.length_nil] at htl2
   have HLIT := Lib.hid (nodeB_lits HNB.out)
   obtain rfl := nodeB_two HNB.out
   have hnml : nm.length <= 1000 := by rw [nodeB_twoN HNB.out];simp
   clear HIH HTX HA1 HNB
   go_wp2_with fail
   clear c0 c1 c2
   go_loopg [3,5] ls.length (fun g v3 v5 wr => RelTI W ls v3 v5 g wr)
   case atStart => exact ⟨0,by omega,rfl,by simp [sepL],rfl⟩
   case round =>
    obtain ⟨i,hig,rfl,rfl,rfl⟩ := hrel
    have hl1 := qcT (ls.map Lib.itoa) i
    by_cases hi : i < ls.length
    . obtain ⟨b,o,rfl,_,hcell⟩ := HI1.out (by omega)
      have p := hcell i hi
      rw [List.getD_eq_getElem?_getD,List.getElem?_eq_getElem hi] at p
      have p' : wr.cell? ⟨b,o + i,none⟩ = some (.int .i64 ls[i]) := p
      obtain ⟨hz0,hz1⟩ := all_lit HLIT.out i hi
      have HSS := Lib.hid (sep_step Lib.itoa ls i hi)
      have hzl := Lib.itoa_length_le ls[i] (by omega) (by omega)
      have hi0 : (0 : Int) <= (i : Int) := by omega
      have hi1 : (i : Int) < (ls.length : Int) := by omega
      clear hcell p HI1 HLIT
      generalize ls[i] = z at *
      have hl2 : ([91] ++ sepL ((ls.map Lib.itoa).take i)).length <= 100000000001 := by simp only [List.length_append,List.length_cons,List.length_nil];omega
      generalize hout : [91] ++ sepL ((ls.map Lib.itoa).take i) = out at *
      have HOUT := Lib.hid hout
      clear hout hl1
      by_cases hz : i = 0
      . subst hz
        have p'' : wr.cell? ⟨b,o,none⟩ = some (.int .i64 z) := p'
        go_wp2_with (go_at_call 44;refine (digits_c _ _ hz0 hz1).mono ?_;rintro e w' ⟨rfl,rfl⟩)
        go_roundg (ls.length - (0 + 1))
        case measure => omega
        case rel => exact ⟨0 + 1,by omega,by simp,str_eq (by rw [HSS.out,<- List.append_assoc,HOUT.out,qbV];rfl),rfl⟩
      . go_wp2_with (go_at_call 44;refine (digits_c _ _ hz0 hz1).mono ?_;rintro e w' ⟨rfl,rfl⟩)
        go_roundg (ls.length - (i + 1))
        case measure => omega
        case rel =>
         refine ⟨i + 1,by omega,by simp,str_eq ?_,rfl⟩
         rw [HSS.out,<- List.append_assoc,HOUT.out,if_neg hz,<- List.append_assoc,<- qbV,<- qbV]
    . have HTK : Hid (([91] ++ sepL ((ls.map Lib.itoa).take i)) = [91] ++ sepL (ls.map Lib.itoa)) := by show _ = _;rw [List.take_of_length_le (by simp;omega)]
      rw [HTK.out]
      have hl2 : ([91] ++ sepL (ls.map Lib.itoa)).length <= 100000000001 := by simp only [List.length_append,List.length_cons,List.length_nil];omega
      generalize hout : [91] ++ sepL (ls.map Lib.itoa) = out at *
      have HOUT := Lib.hid hout
      clear hout HTK
      go_wp2_with fail
      refine wp_loop_rounds 1 ?_
      rw [rounds_succ]
      go_wp2_with fail
      go_ret
      exact ⟨ret_str (by rw [HT1.out,<- qbV]),HB0.out⟩
 . have HT1 : Hid (textE (.mk 3 nm n ls xs) = nm ++ [40] ++ sepL (xs.map textE) ++ [41]) := by show _ = _;rw [HTX.out,<- textL_map];rfl
   rw [HT1.out] at htl2
   simp only [List.length_append,List.length_cons,List.length_nil] at htl2
   obtain rfl := nodeB_three HNB.out
   have hnml : nm.length <= 1000 := by have := nodeB_name HNB.out (.inl rfl);omega
   have C4 := Lib.hid c4
   clear HTX HI1 HNB
   go_wp2_with fail
   refine wp_loop_rounds 1 ?_
   rw [rounds_succ]
   go_wp2_with fail
   clear c0 c1 c2 c3 c4
   go_loopg [3,6] xs.length (fun g v3 v6 wr => RelTA W nm xs v3 v6 g wr)
   case atStart => exact ⟨0,by omega,rfl,str_eq (by rw [List.take_zero];show _ = (⟨(nm ++ [40] ++ []).toArray⟩ : ByteArray);rw [List.append_nil,<- qbV]),Below.refl _ _⟩
   case round =>
    obtain ⟨i,hig,rfl,rfl,hbr⟩ := hrel
    have hl1 := qcT (xs.map textE) i
    have HBR := Lib.hid hbr
    have HAR := Lib.hid (HA1.out.grow hbr)
    have d4 : wr.cell? ⟨w.heap.size,4,none⟩ = some (.slice aa xs.length ac) := (hbr.cell (p := ⟨w.heap.size,4,none⟩) hwl).trans C4.out
    clear hbr HA1 C4
    by_cases hi : i < xs.length
    . obtain ⟨b,o,k',nm',n',la',ll',lc',ab',al',ac',rfl,hrg,hec⟩ := HAR.out.at_ hi
      have HRG := Lib.hid hrg
      have HC : Hid (Calls Tryz.prog 29 #[.agg #[.int .i64 k',.string nm',.int .i64 n',.slice la' ll' lc',.slice ab' al' ac']] wr fun e w'' => e = .returned (.string ⟨(textE xs[i]).toArray⟩) /\ Below wr.heap.size wr w'') := HIH.out i hi _ wr hec
      have hss := sep_step textE xs i hi
      have hl3 := qcT (xs.map textE) (i + 1)
      have hl4 := congrArg List.length hss
      simp only [List.length_append] at hl4
      have HSS := Lib.hid hss
      have hi0 : (0 : Int) <= (i : Int) := by omega
      have hi1 : (i : Int) < (xs.length : Int) := by omega
      have hzl : (textE xs[i]).length <= 100000000001 := by omega
      clear hrg hec HAR HIH hss hl3 hl4
      generalize textE xs[i] = z at *
      have hl2 : (nm ++ [40] ++ sepL ((xs.map textE).take i)).length <= 100000000001 := by simp only [List.length_append,List.length_cons,List.length_nil];omega
      generalize hout : nm ++ [40] ++ sepL ((xs.map textE).take i) = out at *
      have HOUT := Lib.hid hout
      clear hout hl1
      by_cases hz : i = 0
      . subst hz
        go_wp2_with (refine wpList_load_mid rfl 25 (.tmp 58) rfl b (o + 0 * 5) rfl [.int .i64 k',.string nm',.int .i64 n',.slice la' ll' lc',.slice ab' al' ac'] _ HRG.out Tryz.underlying25 rfl exprSize ?_)
        refine HC.out.mono ?_
        rintro e w5 ⟨rfl,hb5⟩
        have HB5 := Lib.hid (HBR.out.trans (hb5.mono HBR.out.size))
        clear hb5 HC HBR
        go_wp2_with fail
        go_roundg (xs.length - (0 + 1))
        case measure => omega
        case rel => exact ⟨0 + 1,by omega,by simp,str_eq (by rw [HSS.out,<- List.append_assoc,HOUT.out,qbV];rfl),HB5.out⟩
      . go_wp2_with (refine wpList_load_mid rfl 25 (.tmp 58) rfl b (o + i * 5) rfl [.int .i64 k',.string nm',.int .i64 n',.slice la' ll' lc',.slice ab' al' ac'] _ HRG.out Tryz.underlying25 rfl exprSize ?_)
        refine HC.out.mono ?_
        rintro e w5 ⟨rfl,hb5⟩
        have HB5 := Lib.hid (HBR.out.trans (hb5.mono HBR.out.size))
        clear hb5 HC HBR
        go_wp2_with fail
        go_roundg (xs.length - (i + 1))
        case measure => omega
        case rel =>
         refine ⟨i + 1,by omega,by simp,str_eq ?_,HB5.out⟩
         rw [HSS.out,<- List.append_assoc,HOUT.out,if_neg hz,<- List.append_assoc,<- qbV,<- qbV]
    . have HTK : Hid ((nm ++ [40] ++ sepL ((xs.map textE).take i)) = nm ++ [40] ++ sepL (xs.map textE)) := by show _ = _;rw [List.take_of_length_le (by simp;omega)]
      rw [HTK.out]
      have hl2 : (nm ++ [40] ++ sepL (xs.map textE)).length <= 100000000001 := by simp only [List.length_append,List.length_cons,List.length_nil];omega
      generalize hout : nm ++ [40] ++ sepL (xs.map textE) = out at *
      have HOUT := Lib.hid hout
      clear hout HTK
      go_wp2_with fail
      go_ret
      exact ⟨ret_str (by rw [HT1.out,<- qbV]),HB0.out.trans (HBR.out.mono HB0.out.size)⟩
 . have HT1 : Hid (textE (.mk 4 nm n ls xs) = nm) := by show _ = _;rw [HTX.out];rfl
   clear HIH HTX HA1 HI1 HNB
   go_wp2_with fail
   go_ret
   exact ⟨ret_str (by rw [HT1.out]),HB0.out⟩
set_option maxHeartbeats 4000000 in
set_option maxRecDepth 100000 in
theorem rcheck_c (x : E) (cs : List Value) (F : Nat -> Prop) (w : World) (h : ExprC w F x cs) (hs : sizeE x <= 1000000000) (he : entE x <= 9223372036854775807) :
 Calls Tryz.prog 13 #[.agg cs.toArray] w fun e w' => e = .returned (.int .i64 (checkE x)) /\ Below w.heap.size w w' := by
 obtain ⟨k,nm,n,la,ll,lc,aa,al,ac,rfl⟩ := h.shape
 have HX := Lib.hid h.all
 clear h
 have hb0 : Below w.heap.size w (w.alloc (.cells #[.int .i64 k,.string nm,.int .i64 n,.slice la ll lc,.slice aa al ac] 25)) := (Below.refl _ _).alloc (Nat.le_refl _) _
 have hr0 : (w.alloc (.cells #[.int .i64 k,.string nm,.int .i64 n,.slice la ll lc,.slice aa al ac] 25)).heap[w.heap.size]? = some (.cells [.int .i64 k,.string nm,.int .i64 n,.slice la ll lc,.slice aa al ac].toArray 25 (0,0)) := heap_alloc_new _ _
 have HR0 := Lib.hid hr0
 have HB0 := Lib.hid hb0
 clear hr0 hb0
 go_enter Tryz.func13,Tryz.ntmps13
 go_wp2_with fail
 generalize w.alloc (.cells #[.int .i64 k,.string nm,.int .i64 n,.slice la ll lc,.slice aa al ac] 25) = W at *
 refine (rform_c x _ _ W (HX.out.kept HB0.out) hs he).mono ?_
 rintro e w1 ⟨rfl,hb1⟩
 have hxw : w.heap.size < W.heap.size := (Array.getElem?_eq_some_iff.1 HR0.out).1
 have HR1 := Lib.hid ((hb1.block _ hxw).trans HR0.out)
 have HB1 := Lib.hid (HB0.out.trans (hb1.mono HB0.out.size))
 have hxw1 : w.heap.size < w1.heap.size := Nat.lt_of_lt_of_le hxw hb1.size
 clear hb1 HR0 HB0 hxw
 clear W
 cases hf : formE x
 . go_wp2_with fail
   go_ret
   exact ⟨qaM (by unfold checkE;rw [if_pos hf];rfl),HB1.out⟩
 . have HF : Hid (checkE x = if shortE x = false \/ 32 < depthE x \/ 1024 < sizeE x then 8 else if 65536 < (textE x).length then 8 else 0) := by show _ = _;unfold checkE;rw [hf];rfl
   have hdp : depthE x <= 1000000000 := by have := depth_size x;omega
   go_wp2_with (refine wpList_load_mid rfl 25 (.tmp 1) rfl w.heap.size 0 rfl [.int .i64 k,.string nm,.int .i64 n,.slice la ll lc,.slice aa al ac] _ (range_of_row5 HR1.out) Tryz.underlying25 rfl exprSize ?_)
   refine (rlong_c x _ _ w1 (HX.out.kept HB1.out) hs he).mono ?_
   rintro e w2 ⟨rfl,hb2⟩
   have HR2 := Lib.hid ((hb2.block _ hxw1).trans HR1.out)
   have HB2 := Lib.hid (HB1.out.trans (hb2.mono HB1.out.size))
   have hxw2 : w.heap.size < w2.heap.size := Nat.lt_of_lt_of_le hxw1 hb2.size
   clear hb2 HR1 HB1 hxw1
   clear w1
   cases hsh : shortE x
   . go_wp2_with fail
     go_ret
     exact ⟨qaM (by rw [HF.out,if_pos (.inl hsh)];rfl),HB2.out⟩
   . obtain ⟨z0,z1,z2,z3,z4⟩ := cells5 HR2.out
     go_wp2_with fail
     refine (rsize_c x _ _ w2 (HX.out.kept HB2.out) hs).mono ?_
     rintro e w3 ⟨rfl,hb3⟩
     have HR3 := Lib.hid ((hb3.block _ hxw2).trans HR2.out)
     have HB3 := Lib.hid (HB2.out.trans (hb3.mono HB2.out.size))
     have hxw3 : w.heap.size < w3.heap.size := Nat.lt_of_lt_of_le hxw2 hb3.size
     clear hb3 HR2 HB2 hxw2 z0 z1 z2 z3 z4
     clear w2
     by_cases hsz : 1024 < sizeE x
     . go_wp2_with fail
       go_ret
       exact ⟨qaM (by rw [HF.out,if_pos (.inr (.inr hsz))];rfl),HB3.out⟩
     . obtain ⟨z0,z1,z2,z3,z4⟩ := cells5 HR3.out
       go_wp2_with fail
       refine (rdepth_c x _ _ w3 (HX.out.kept HB3.out) hs).mono ?_
       rintro e w4 ⟨rfl,hb4⟩
       have HR4 := Lib.hid ((hb4.block _ hxw3).trans HR3.out)
       have HB4 := Lib.hid (HB3.out.trans (hb4.mono HB3.out.size))
       clear hb4 HR3 HB3 hxw3 z0 z1 z2 z3 z4
       clear w3
       by_cases hdd : 32 < depthE x
       . go_wp2_with fail
         go_ret
         exact ⟨qaM (by rw [HF.out,if_pos (.inr (.inl hdd))];rfl),HB4.out⟩
       . have HF2 : Hid (checkE x = if 65536 < (textE x).length then 8 else 0) := by
          show _ = _
          rw [HF.out,if_neg]
          rintro (h | h | h)
          . rw [hsh] at h;cases h
          . exact hdd h
          . exact hsz h
         have he2 := ent_short x hsh
         have he3 : entE x <= 1000000000 := by omega
         have htl := text_len x hf
         have htl2 : (textE x).length <= 100000000000 := by omega
         obtain ⟨z0,z1,z2,z3,z4⟩ := cells5 HR4.out
         clear HF htl he2
         go_wp2_with fail
         refine (rtext_c x _ _ w4 (HX.out.kept HB4.out) hf hs he3).mono ?_
         rintro e w5 ⟨rfl,hb5⟩
         have HB5 := Lib.hid (HB4.out.trans (hb5.mono HB4.out.size))
         clear hb5 z0 z1 z2 z3 z4
         generalize textE x = tx at *
         by_cases hov : 65536 < tx.length
         . go_wp2_with fail
           go_ret
           exact ⟨qaM (by rw [HF2.out,if_pos hov];rfl),HB5.out⟩
         . go_wp2_with fail
           go_ret
           exact ⟨qaM (by rw [HF2.out,if_neg hov];rfl),HB5.out⟩
end Go.Proofs.YtaddcadapbpkfaaGreatDoor
