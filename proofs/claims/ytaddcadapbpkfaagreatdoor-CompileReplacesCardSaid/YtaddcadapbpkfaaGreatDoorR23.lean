/-
 lang.Size, node, form and measure.
-/
import Derived.WalkLawsBesides
import Derived.Test.YtaddcadapbpkfaaGreatDoorR20
namespace Go.Proofs.YtaddcadapbpkfaaGreatDoor
open Go.RowKit
mutual
theorem qaT {P : E -> Prop} (h : ∀ k nm n ls xs,(∀ a,a ∈ xs -> P a) -> P (.mk k nm n ls xs)) : ∀ x,P x
 | .mk k nm n ls xs => h k nm n ls xs (exprs_ind_ h xs)
theorem exprs_ind_ {P : E -> Prop} (h : ∀ k nm n ls xs,(∀ a,a ∈ xs -> P a) -> P (.mk k nm n ls xs)) : ∀ (xs : List E) (a : E),a ∈ xs -> P a
 | [],a,ha => by cases ha
 | x :: r,a,ha => (List.mem_cons.1 ha).elim (fun e => e ▸ qaT h x) (fun h' => exprs_ind_ h r a h')
end
mutual
def sizeE : E -> Nat
 | .mk _ _ _ _ xs => 1 + sizeL xs
def sizeL : List E -> Nat
 | [] => 0
 | x :: r => sizeE x + sizeL r
end
theorem qeU : ∀ (l : List E) (x : E),sizeL (l ++ [x]) = sizeL l + sizeE x
 | [],x => by simp [sizeL]
 | y :: r,x => by
   rw [List.cons_append]
   unfold sizeL
   rw [qeU r x]
   omega
theorem qaV {α : Type} {l : List α} {i : Nat} {x : α} (h : l[i]? = some x) : l.take (i + 1) = l.take i ++ [x] := by
 rw [List.take_add_one,h]
 rfl
theorem qeW (l : List E) (i : Nat) : sizeL (l.take i) <= sizeL l := by
 induction l generalizing i with
 | nil => simp
 | cons x r ih =>
   cases i with
   | zero => simp [sizeL]
   | succ i =>
     rw [List.take_succ_cons]
     unfold sizeL
     have := ih i
     omega
theorem ExprC.grow {w w' : World} {F : Nat -> Prop} {x : E} {cs : List Value} (h : ExprC w F x cs) (hb : Below w.heap.size w w') : ExprC w' F x cs := ExprC.mono (fun b hF hlt => ⟨hF,hb.block b hlt⟩) x cs h
theorem ExprsC.grow {w w' : World} {F : Nat -> Prop} {b o : Nat} {xs : List E} (h : ExprsC w F b o xs) (hb : Below w.heap.size w w') (hl : 0 < xs.length) : ExprsC w' F b o xs := by
 refine ExprsC.mono (fun b hF hlt => ⟨hF,hb.block b hlt⟩) (hb.block b ?_) xs o h
 cases xs with
 | nil => simp at hl
 | cons x r =>
   unfold ExprsC at h
   obtain ⟨⟨cs,h1,h2⟩,_⟩ := h
   exact qcX h1 (by rw [h2.len];omega)
theorem ExprC.shape {w : World} {F : Nat -> Prop} {y : E} {cs : List Value} (h : ExprC w F y cs) : ∃ k nm n la ll lc aa al ac,cs = [.int .i64 k,.string nm,.int .i64 n,.slice la ll lc,.slice aa al ac] := by
 cases y
 unfold ExprC at h
 obtain ⟨la,lc,aa,ac,rfl,_⟩ := h
 exact ⟨_,_,_,_,_,_,_,_,_,rfl⟩
def ArgsAt (w : World) (F : Nat -> Prop) (aa : Option Addr) (xs : List E) : Prop := 0 < xs.length -> ∃ b o,aa = some ⟨b,o,none⟩ /\ F b /\ ExprsC w F b o xs
theorem ArgsAt.grow {w w' : World} {F : Nat -> Prop} {aa : Option Addr} {xs : List E} (h : ArgsAt w F aa xs) (hb : Below w.heap.size w w') : ArgsAt w' F aa xs := fun hz => by
 obtain ⟨b,o,e,hF,hx⟩ := h hz
 exact ⟨b,o,e,hF,hx.grow hb hz⟩
theorem ArgsAt.at_ {w : World} {F : Nat -> Prop} {aa : Option Addr} {xs : List E} (h : ArgsAt w F aa xs) {i : Nat} (hi : i < xs.length) :
 ∃ b o k nm n la ll lc ab al ac,aa = some ⟨b,o,none⟩ /\ w.rangeAt b (o + i * 5) [.int .i64 k,.string nm,.int .i64 n,.slice la ll lc,.slice ab al ac] /\ ExprC w F xs[i] [.int .i64 k,.string nm,.int .i64 n,.slice la ll lc,.slice ab al ac] := by
 obtain ⟨b,o,e,_,hx⟩ := h (by omega)
 obtain ⟨cs,h1,h2⟩ := ExprsC.at_ xs o i xs[i] hx (List.getElem?_eq_getElem hi)
 obtain ⟨k,nm,n,la,ll,lc,ab,al,ac,rfl⟩ := h2.shape
 exact ⟨b,o,k,nm,n,la,ll,lc,ab,al,ac,e,h1,h2⟩
def RelSize (W : World) (xs : List E) (v3 v9 : Value) (g : Nat) (wr : World) : Prop :=
 ∃ i,i + g = xs.length /\ v3 = .int .i64 ((1 + sizeL (xs.take i) : Nat) : Int) /\ v9 = .int .i64 i /\ Below W.heap.size W wr
set_option maxHeartbeats 4000000 in
set_option maxRecDepth 100000 in
theorem size_c : ∀ (x : E) (cs : List Value) (F : Nat -> Prop) (w : World),ExprC w F x cs -> sizeE x <= 1000000000 ->
 Calls Tryz.prog 39 #[.agg cs.toArray] w fun e w' => e = .returned (.int .i64 (sizeE x)) /\ Below w.heap.size w w' := by
 refine qaT ?_
 intro k nm n ls xs ih cs F w h hs
 unfold ExprC at h
 obtain ⟨la,lc,aa,ac,rfl,_,ha⟩ := h
 have hs' : 1 + sizeL xs <= 1000000000 := by unfold sizeE at hs;exact hs
 have hlen : xs.length <= 1000000000 := by
  have : ∀ l : List E,l.length <= sizeL l := by
   intro l
   induction l with
   | nil => simp
   | cons y r ih => cases y;unfold sizeL sizeE;simp;omega
  have := this xs
  omega
 have HIH := Lib.hid ih
 have HA : Hid (ArgsAt w F aa xs) := ha
 have HS : Hid (sizeE (.mk k nm n ls xs) = 1 + sizeL xs) := by show _ = _;unfold sizeE;rfl
 clear ih ha hs
 go_enter Tryz.func39,Tryz.ntmps39
 go_wp2_with fail
 have hb0 : Below w.heap.size w (w.alloc (.cells #[.int .i64 k,.string ⟨nm.toArray⟩,.int .i64 n,.slice la ls.length lc,.slice aa xs.length ac] 25)) := (Below.refl _ _).alloc (Nat.le_refl _) _
 have HA1 := Lib.hid (HA.out.grow hb0)
 have HB0 := Lib.hid hb0
 clear hb0 HA
 generalize w.alloc (.cells #[.int .i64 k,.string ⟨nm.toArray⟩,.int .i64 n,.slice la ls.length lc,.slice aa xs.length ac] 25) = W at *
 go_loopg [3,9] xs.length (fun g v3 v9 wr => RelSize W xs v3 v9 g wr)
 case atStart => exact ⟨0,by omega,by simp [sizeL],rfl,Below.refl _ _⟩
 case round =>
  obtain ⟨i,hig,rfl,rfl,hbr⟩ := hrel
  have HBR := Lib.hid hbr
  have HAR := Lib.hid (HA1.out.grow hbr)
  clear hbr HA1
  by_cases hi : i < xs.length
  . obtain ⟨b,o,k',nm',n',la',ll',lc',ab',al',ac',rfl,hrg,hec⟩ := HAR.out.at_ hi
    have hsz : sizeL (xs.take (i + 1)) = sizeL (xs.take i) + sizeE xs[i] := by rw [qaV (List.getElem?_eq_getElem hi),qeU]
    have hsl := qeW xs (i + 1)
    have HSZ := Lib.hid hsz
    have HRG := Lib.hid hrg
    have hse : sizeE xs[i] <= 1000000000 := by omega
    have hadd : 1 + sizeL (xs.take i) + sizeE xs[i] <= 1000000000 := by omega
    have HC : Hid (∀ w',Below wr.heap.size wr w' -> Calls Tryz.prog 39 #[.agg #[.int .i64 k',.string nm',.int .i64 n',.slice la' ll' lc',.slice ab' al' ac']] w' fun e w'' => e = .returned (.int .i64 (sizeE xs[i])) /\ Below w'.heap.size w' w'') :=
     fun w' hb' => HIH.out xs[i] (List.getElem_mem hi) _ F w' (hec.grow hb') hse
    clear hsz hrg hec HAR
    generalize sizeE xs[i] = z at *
    generalize sizeL (xs.take i) = y at *
    have hi0 : (0 : Int) <= (i : Int) := by omega
    have hi1 : (i : Int) < (xs.length : Int) := by omega
    go_wp2_with (first
     | (refine wpList_load_mid rfl 25 (.tmp 11) rfl b (o + i * 5) rfl [.int .i64 k',.string nm',.int .i64 n',.slice la' ll' lc',.slice ab' al' ac'] _ HRG.out Tryz.underlying25 rfl exprSize ?_)
     | (refine qaC rfl 25 (.tmp 5) (.tmp 12) rfl wr _ #[.int .i64 k',.string nm',.int .i64 n',.slice la' ll' lc',.slice ab' al' ac'] rfl rfl exprSize rfl (by simp [Value.oneCell']) ?_))
    have hba : Below wr.heap.size wr (wr.alloc (.cells #[.int .i64 k',.string nm',.int .i64 n',.slice la' ll' lc',.slice ab' al' ac'] 25)) := (Below.refl _ _).alloc (Nat.le_refl _) _
    refine (HC.out _ hba).mono ?_
    rintro e w5 ⟨rfl,hb5⟩
    have HB5 := Lib.hid (HBR.out.trans ((hba.trans (hb5.mono hba.size)).mono HBR.out.size))
    clear hba hb5 HC HBR
    go_wp2_with fail
    go_roundg (xs.length - (i + 1))
    case measure => omega
    case rel => exact ⟨i + 1,by omega,by rw [HSZ.out];simp;omega,by simp,HB5.out⟩
  . go_wp2_with fail
    go_ret
    refine ⟨qaM ?_,HB0.out.trans (HBR.out.mono HB0.out.size)⟩
    rw [HS.out,List.take_of_length_le (by omega)]
def litB (n : Int) : Bool := decide (0 <= n /\ n <= 9999999)
def nameB (l : List UInt8) : Bool := decide (l ≠ [] /\ l.length <= 16 /\ (∀ c,l[0]? = some c -> isLet c = true) /\ runEnd inNm l 0 = l.length)
def nodeB : E -> Bool
 | .mk k nm n ls xs => ls.all litB && (if k = 1 then litB n && nm.isEmpty && ls.isEmpty && xs.isEmpty else if k = 2 then decide (n = 0) && nm.isEmpty && xs.isEmpty
    else if k = 3 then decide (n = 0) && nameB nm && ls.isEmpty else if k = 4 then decide (n = 0) && nameB nm && ls.isEmpty && xs.isEmpty else false)
set_option maxHeartbeats 1000000 in
theorem qdA (n : Int) (w : World) : Calls Tryz.prog 175 #[.int .i64 n] w fun e w' => e = .returned (.bool (litB n)) /\ w = w' := by
 by_cases h0 : 0 <= n
 . go_enter Tryz.func175,Tryz.ntmps175
   go_wp2_with fail
   go_ret
   exact ⟨qaG (by simp [litB,h0]),rfl⟩
 . go_enter Tryz.func175,Tryz.ntmps175
   go_wp2_with fail
   go_ret
   exact ⟨qaG (by simp [litB];omega),rfl⟩
theorem list_nil_iff (s : ByteArray) : s.toList = [] ↔ s.size = 0 := by
 rw [ByteArray.toList_eq,<- List.length_eq_zero_iff,qeB]
set_option maxHeartbeats 1000000 in
theorem qeV (s : ByteArray) (w : World) : Calls Tryz.prog 176 #[.string s] w fun e w' => e = .returned (.bool (nameB s.data.toList)) /\ w = w' := by
 have hlen := qeB s
 by_cases h0 : s.size = 0
 . have HN : Hid (nameB s.data.toList = false) := by
    show _ = _
    unfold nameB
    rw [decide_eq_false_iff_not]
    intro h
    exact h.1 (List.length_eq_zero_iff.1 (by omega))
   have he : s.toList = [] := (list_nil_iff s).2 h0
   clear hlen h0
   go_enter Tryz.func176,Tryz.ntmps176
   go_wp2_with fail
   go_ret
   exact ⟨qaG HN.out.symm,rfl⟩
 . have he : ¬ s.toList = [] := fun h => h0 ((list_nil_iff s).1 h)
   by_cases h16 : 16 < s.size
   . have HN : Hid (nameB s.data.toList = false) := by
      show _ = _
      unfold nameB
      rw [decide_eq_false_iff_not]
      intro h
      omega
     clear hlen h0
     go_enter Tryz.func176,Tryz.ntmps176
     go_wp2_with fail
     go_ret
     exact ⟨qaG HN.out.symm,rfl⟩
   . have hp : 0 < s.size := by omega
     have hb := byte_at s 0 hp
     cases hl : isLet s[0]
     . have HN : Hid (nameB s.data.toList = false) := by
        show _ = _
        unfold nameB
        rw [decide_eq_false_iff_not]
        intro h
        have := h.2.2.1 _ hb
        rw [hl] at this
        cases this
       clear hlen h0 hb
       go_enter Tryz.func176,Tryz.ntmps176
       go_wp2_with (go_at_call 248;refine (isLetter_c _ _).mono ?_;rintro e w' ⟨rfl,rfl⟩)
       go_ret
       exact ⟨qaG HN.out.symm,rfl⟩
     . have HN : Hid (nameB s.data.toList = decide (runEnd inNm s.data.toList 0 = s.size)) := by
        show _ = _
        unfold nameB
        rw [decide_eq_decide]
        constructor
        . intro h
          rw [h.2.2.2,hlen]
        . intro h
          refine ⟨fun e => h0 (by rw [<- hlen,e];rfl),by omega,fun c hc => ?_,by rw [h,hlen]⟩
          rw [hb] at hc
          rw [<- Option.some.inj hc]
          exact hl
       clear hlen h0 hb
       go_enter Tryz.func176,Tryz.ntmps176
       go_wp2_with (first
        | (go_at_call 248;refine (isLetter_c _ _).mono ?_;rintro e w' ⟨rfl,rfl⟩)
        | (go_at_call 249;refine (while_in s 0 _ (by omega) (by omega)).mono ?_;rintro e w' ⟨rfl,rfl⟩))
       go_ret
       exact ⟨qaG (by rw [HN.out,Bool.eq_iff_iff];simp [he];omega),rfl⟩
theorem take_all {l : List Int} {p : Int -> Bool} {i : Nat} (h : i < l.length) : (l.take (i + 1)).all p = ((l.take i).all p && p (l.getD i 0)) := by
 rw [qaV (List.getElem?_eq_getElem h),List.all_append]
 simp [List.getD,List.getElem?_eq_getElem h]
theorem all_false {l : List Int} {p : Int -> Bool} {i : Nat} (h : i < l.length) (hp : p (l.getD i 0) = false) : l.all p = false := by
 rw [List.all_eq_false]
 refine ⟨l[i],List.getElem_mem h,?_⟩
 simpa [List.getD,List.getElem?_eq_getElem h] using hp
def listLen : E -> Nat | .mk _ _ _ ls _ => ls.length
def argsLen : E -> Nat | .mk _ _ _ _ xs => xs.length
def RelList2 (ls : List Int) (v8 : Value) (g : Nat) : Prop := ∃ i,i + g = ls.length /\ v8 = .int .i64 i /\ (ls.take i).all litB = true
set_option maxHeartbeats 4000000 in
set_option maxRecDepth 100000 in
theorem node_c (x : E) (cs : List Value) (F : Nat -> Prop) (w : World) (h : ExprC w F x cs) (hl : listLen x <= 9223372036854775807) (hn : argsLen x <= 1000000000) : Calls Tryz.prog 72 #[.agg cs.toArray] w fun e w' => e = .returned (.bool (nodeB x)) /\ Below w.heap.size w w' := by
 cases x with
 | mk k nm n ls xs =>
 unfold ExprC at h
 obtain ⟨la,lc,aa,ac,rfl,hi,_⟩ := h
 have HI := Lib.hid hi
 clear hi
 go_enter Tryz.func72,Tryz.ntmps72
 go_wp2_with fail
 have hb0 : Below w.heap.size w (w.alloc (.cells #[.int .i64 k,.string ⟨nm.toArray⟩,.int .i64 n,.slice la ls.length lc,.slice aa xs.length ac] 25)) := (Below.refl _ _).alloc (Nat.le_refl _) _
 have HI1 := Lib.hid (HI.out.mono (fun b hF hlt => ⟨hF,hb0.block b hlt⟩))
 have HB0 := Lib.hid hb0
 clear hb0 HI
 have hl' : ls.length <= 9223372036854775807 := hl
 have hn' : xs.length <= 1000000000 := hn
 clear hl hn
 have c0 : (w.alloc (.cells #[.int .i64 k,.string ⟨nm.toArray⟩,.int .i64 n,.slice la ls.length lc,.slice aa xs.length ac] 25)).cell? ⟨w.heap.size,0,none⟩ = some (.int .i64 k) := World.cell?_alloc_new _ _ _ 0
 have c1 : (w.alloc (.cells #[.int .i64 k,.string ⟨nm.toArray⟩,.int .i64 n,.slice la ls.length lc,.slice aa xs.length ac] 25)).cell? ⟨w.heap.size,1,none⟩ = some (.string ⟨nm.toArray⟩) := World.cell?_alloc_new _ _ _ 1
 have c2 : (w.alloc (.cells #[.int .i64 k,.string ⟨nm.toArray⟩,.int .i64 n,.slice la ls.length lc,.slice aa xs.length ac] 25)).cell? ⟨w.heap.size,2,none⟩ = some (.int .i64 n) := World.cell?_alloc_new _ _ _ 2
 have c3 : (w.alloc (.cells #[.int .i64 k,.string ⟨nm.toArray⟩,.int .i64 n,.slice la ls.length lc,.slice aa xs.length ac] 25)).cell? ⟨w.heap.size,3,none⟩ = some (.slice la ls.length lc) := World.cell?_alloc_new _ _ _ 3
 have c4 : (w.alloc (.cells #[.int .i64 k,.string ⟨nm.toArray⟩,.int .i64 n,.slice la ls.length lc,.slice aa xs.length ac] 25)).cell? ⟨w.heap.size,4,none⟩ = some (.slice aa xs.length ac) := World.cell?_alloc_new _ _ _ 4
 generalize w.alloc (.cells #[.int .i64 k,.string ⟨nm.toArray⟩,.int .i64 n,.slice la ls.length lc,.slice aa xs.length ac] 25) = W at *
 go_loopg [8] ls.length (fun g v8 wr => RelList2 ls v8 g /\ wr = W)
 case atStart => exact ⟨⟨0,by omega,rfl,by simp⟩,rfl⟩
 case round =>
  obtain ⟨⟨i,hig,rfl,hall⟩,rfl⟩ := hrel
  have HALL := Lib.hid hall
  clear hall
  by_cases hi : i < ls.length
  . obtain ⟨b,o,rfl,_,hcell⟩ := HI1.out (by omega)
    have p := hcell i hi
    have hi0 : (0 : Int) <= (i : Int) := by omega
    have hi1 : (i : Int) < (ls.length : Int) := by omega
    have HALL2 := Lib.hid (take_all (p := litB) hi)
    have HALF : Hid (litB (ls.getD i 0) = false -> ls.all litB = false) := all_false hi
    clear hcell
    generalize ls.getD i 0 = z at *
    cases hz : litB z
    . go_wp2_with (first
      | (go_at_call 175;refine (qdA _ _).mono ?_;rintro e w' ⟨rfl,rfl⟩)
      | (go_at_call 176;refine (qeV _ _).mono ?_;rintro e w' ⟨rfl,rfl⟩))
      go_ret
      exact ⟨qaG (by simp only [nodeB,HALF.out hz,Bool.false_and]),HB0.out⟩
    . go_wp2_with (first
      | (go_at_call 175;refine (qdA _ _).mono ?_;rintro e w' ⟨rfl,rfl⟩)
      | (go_at_call 176;refine (qeV _ _).mono ?_;rintro e w' ⟨rfl,rfl⟩))
      go_roundg (ls.length - (i + 1))
      case measure => omega
      case rel => exact ⟨⟨i + 1,by omega,by simp,by rw [HALL2.out,HALL.out,hz];rfl⟩,rfl⟩
  . have hall : ls.all litB = true := by
     have := HALL.out
     rwa [List.take_of_length_le (by omega)] at this
    have HND : Hid (nodeB (.mk k nm n ls xs) = (if k = 1 then litB n && nm.isEmpty && ls.isEmpty && xs.isEmpty else if k = 2 then decide (n = 0) && nm.isEmpty && xs.isEmpty
     else if k = 3 then decide (n = 0) && nameB nm && ls.isEmpty else if k = 4 then decide (n = 0) && nameB nm && ls.isEmpty && xs.isEmpty else false)) := by
     show _ = _
     simp only [nodeB,hall,Bool.true_and]
    clear hall HALL HI1
    by_cases h1 : k = 1
    . subst h1
      have HND2 : Hid (nodeB (.mk 1 nm n ls xs) = (litB n && nm.isEmpty && ls.isEmpty && xs.isEmpty)) := HND.out
      clear HND
      go_wp2_with (first | (go_at_call 175;refine (qdA _ _).mono ?_;rintro e w' ⟨rfl,rfl⟩) | (go_at_call 176;refine (qeV _ _).mono ?_;rintro e w' ⟨rfl,rfl⟩))
      all_goals (go_ret;exact ⟨qaG (by rw [HND2.out];first | (simp [*];done) | (simp [*];omega) | (rw [Bool.eq_iff_iff];simp [*];done) | (rw [Bool.eq_iff_iff];simp [*];omega)),HB0.out⟩)
    . by_cases h2 : k = 2
      . subst h2
        have HND2 : Hid (nodeB (.mk 2 nm n ls xs) = (decide (n = 0) && nm.isEmpty && xs.isEmpty)) := HND.out
        clear HND
        go_wp2_with (first | (go_at_call 175;refine (qdA _ _).mono ?_;rintro e w' ⟨rfl,rfl⟩) | (go_at_call 176;refine (qeV _ _).mono ?_;rintro e w' ⟨rfl,rfl⟩))
        all_goals (go_ret;exact ⟨qaG (by rw [HND2.out];first | (simp [*];done) | (simp [*];omega) | (rw [Bool.eq_iff_iff];simp [*];done) | (rw [Bool.eq_iff_iff];simp [*];omega)),HB0.out⟩)
      . by_cases h3 : k = 3
        . subst h3
          have HND2 : Hid (nodeB (.mk 3 nm n ls xs) = (decide (n = 0) && nameB nm && ls.isEmpty)) := HND.out
          clear HND
          go_wp2_with (first | (go_at_call 175;refine (qdA _ _).mono ?_;rintro e w' ⟨rfl,rfl⟩) | (go_at_call 176;refine (qeV _ _).mono ?_;rintro e w' ⟨rfl,rfl⟩))
          all_goals (go_ret;exact ⟨qaG (by rw [HND2.out];first | (simp [*];done) | (simp [*];omega) | (rw [Bool.eq_iff_iff];simp [*];done) | (rw [Bool.eq_iff_iff];simp [*];omega)),HB0.out⟩)
        . by_cases h4 : k = 4
          . subst h4
            have HND2 : Hid (nodeB (.mk 4 nm n ls xs) = (decide (n = 0) && nameB nm && ls.isEmpty && xs.isEmpty)) := HND.out
            clear HND
            go_wp2_with (first | (go_at_call 175;refine (qdA _ _).mono ?_;rintro e w' ⟨rfl,rfl⟩) | (go_at_call 176;refine (qeV _ _).mono ?_;rintro e w' ⟨rfl,rfl⟩))
            all_goals (go_ret;exact ⟨qaG (by rw [HND2.out];first | (simp [*];done) | (simp [*];omega) | (rw [Bool.eq_iff_iff];simp [*];done) | (rw [Bool.eq_iff_iff];simp [*];omega)),HB0.out⟩)
          . have HND2 : Hid (nodeB (.mk k nm n ls xs) = false) := by show _ = _;rw [HND.out,if_neg h1,if_neg h2,if_neg h3,if_neg h4]
            clear HND
            go_wp2_with fail
            go_ret
            exact ⟨qaG HND2.out.symm,HB0.out⟩
mutual
def entE : E -> Nat
 | .mk _ _ _ ls xs => ls.length + entL xs
def entL : List E -> Nat
 | [] => 0
 | x :: r => entE x + entL r
end
mutual
def formE : E -> Bool
 | .mk k nm n ls xs => nodeB (.mk k nm n ls xs) && formL xs
def formL : List E -> Bool
 | [] => true
 | x :: r => formE x && formL r
end
mutual
def depthE : E -> Nat
 | .mk _ _ _ _ xs => depthL xs + 1
def depthL : List E -> Nat
 | [] => 0
 | x :: r => Nat.max (depthE x) (depthL r)
end
mutual
def shortE : E -> Bool
 | .mk _ _ _ ls xs => decide (ls.length <= 4096) && shortL xs
def shortL : List E -> Bool
 | [] => true
 | x :: r => shortE x && shortL r
end
theorem formL_snoc : ∀ (l : List E) (x : E),formL (l ++ [x]) = (formL l && formE x)
 | [],x => by simp [formL]
 | y :: r,x => by rw [List.cons_append];unfold formL;rw [formL_snoc r x,Bool.and_assoc]
theorem qfH : ∀ (l : List E) (x : E),shortL (l ++ [x]) = (shortL l && shortE x)
 | [],x => by simp [shortL]
 | y :: r,x => by rw [List.cons_append];unfold shortL;rw [qfH r x,Bool.and_assoc]
theorem qfG : ∀ (l : List E) (x : E),depthL (l ++ [x]) = Nat.max (depthL l) (depthE x)
 | [],x => by simp [depthL]
 | y :: r,x => by rw [List.cons_append];unfold depthL;rw [qfG r x];simp only [Nat.max_def];repeat (first | split | omega)
theorem formL_mem : ∀ (l : List E) (x : E),x ∈ l -> formE x = false -> formL l = false
 | y :: r,x,hm,hf => by
   unfold formL
   rcases List.mem_cons.1 hm with rfl | hm
   . rw [hf];rfl
   . rw [formL_mem r x hm hf,Bool.and_false]
theorem qbW : ∀ (l : List E) (x : E),x ∈ l -> sizeE x <= sizeL l
 | y :: r,x,hm => by
   unfold sizeL
   rcases List.mem_cons.1 hm with rfl | hm
   . omega
   . have := qbW r x hm;omega
theorem qdJ : ∀ (l : List E) (x : E),x ∈ l -> entE x <= entL l
 | y :: r,x,hm => by
   unfold entL
   rcases List.mem_cons.1 hm with rfl | hm
   . omega
   . have := qdJ r x hm;omega
theorem qbS : ∀ l : List E,l.length <= sizeL l
 | [] => by simp
 | y :: r => by
   have := qbS r
   cases y
   unfold sizeL sizeE
   simp
   omega
mutual
theorem depth_size : ∀ x : E,depthE x <= sizeE x
 | .mk k nm n ls xs => by
   unfold depthE sizeE
   have := depths_size xs
   omega
theorem depths_size : ∀ l : List E,depthL l <= sizeL l
 | [] => by simp [depthL]
 | x :: r => by
   unfold depthL sizeL
   have h1 := depth_size x
   have h2 := depths_size r
   simp only [Nat.max_def]
   split <;> omega
end
def RelForm (W : World) (xs : List E) (v : Value) (g : Nat) (wr : World) : Prop :=
 ∃ i,i + g = xs.length /\ v = .int .i64 i /\ formL (xs.take i) = true /\ Below W.heap.size W wr
set_option maxHeartbeats 4000000 in
set_option maxRecDepth 100000 in
theorem form_c : ∀ (x : E) (cs : List Value) (F : Nat -> Prop) (w : World),ExprC w F x cs -> sizeE x <= 1000000000 -> entE x <= 9223372036854775807 ->
 Calls Tryz.prog 37 #[.agg cs.toArray] w fun e w' => e = .returned (.bool (formE x)) /\ Below w.heap.size w w' := by
 refine qaT ?_
 intro k nm n ls xs ih cs F w h hs he
 have hx := h
 unfold ExprC at h
 obtain ⟨la,lc,aa,ac,rfl,_,ha⟩ := h
 have hs' : 1 + sizeL xs <= 1000000000 := by unfold sizeE at hs;exact hs
 have he' : ls.length + entL xs <= 9223372036854775807 := by unfold entE at he;exact he
 have hlen : xs.length <= 1000000000 := by have := qbS xs;omega
 have HIH := Lib.hid ih
 have HA : Hid (ArgsAt w F aa xs) := ha
 have HX := Lib.hid hx
 have HS : Hid (formE (.mk k nm n ls xs) = (nodeB (.mk k nm n ls xs) && formL xs)) := by show _ = _;conv => lhs;unfold formE
 have HFM : Hid (∀ i,(h : i < xs.length) -> formE xs[i] = false -> formL xs = false) := fun i h hf => formL_mem xs _ (List.getElem_mem h) hf
 have HSM : Hid (∀ i,(h : i < xs.length) -> sizeE xs[i] <= 1000000000) := fun i h => by have := qbW xs _ (List.getElem_mem h);omega
 have HEM : Hid (∀ i,(h : i < xs.length) -> entE xs[i] <= 9223372036854775807) := fun i h => by have := qdJ xs _ (List.getElem_mem h);omega
 have hll : ls.length <= 9223372036854775807 := by omega
 clear ih ha hs he hx hs' he'
 go_enter Tryz.func37,Tryz.ntmps37
 go_wp2_with fail
 have hb0 : Below w.heap.size w (w.alloc (.cells #[.int .i64 k,.string ⟨nm.toArray⟩,.int .i64 n,.slice la ls.length lc,.slice aa xs.length ac] 25)) := (Below.refl _ _).alloc (Nat.le_refl _) _
 have HX1 := Lib.hid (HX.out.grow hb0)
 have HA1 := Lib.hid (HA.out.grow hb0)
 have HB0 := Lib.hid hb0
 have c4 : (w.alloc (.cells #[.int .i64 k,.string ⟨nm.toArray⟩,.int .i64 n,.slice la ls.length lc,.slice aa xs.length ac] 25)).cell? ⟨w.heap.size,4,none⟩ = some (.slice aa xs.length ac) := World.cell?_alloc_new _ _ _ 4
 have hwl : w.heap.size < (w.alloc (.cells #[.int .i64 k,.string ⟨nm.toArray⟩,.int .i64 n,.slice la ls.length lc,.slice aa xs.length ac] 25)).heap.size := by rw [World.size_alloc];omega
 clear hb0 HA HX
 generalize w.alloc (.cells #[.int .i64 k,.string ⟨nm.toArray⟩,.int .i64 n,.slice la ls.length lc,.slice aa xs.length ac] 25) = W1 at *
 refine (node_c _ _ F _ HX1.out hll hlen).mono ?_
 rintro e W ⟨rfl,hbn⟩
 have HA2 := Lib.hid (HA1.out.grow hbn)
 have HB2 := Lib.hid (HB0.out.trans (hbn.mono HB0.out.size))
 have d4 : W.cell? ⟨w.heap.size,4,none⟩ = some (.slice aa xs.length ac) := (hbn.cell (p := ⟨w.heap.size,4,none⟩) hwl).trans c4
 clear hbn HA1 HB0 HX1 c4 hwl
 cases hnb : nodeB (.mk k nm n ls xs)
 . go_wp2_with fail
   go_ret
   exact ⟨qaG (by rw [HS.out,hnb];rfl),HB2.out⟩
 . go_wp2_with fail
   go_loopg [11] xs.length (fun g v wr => RelForm W xs v g wr)
   case atStart => exact ⟨0,by omega,rfl,by simp [formL],Below.refl _ _⟩
   case round =>
    obtain ⟨i,hig,rfl,hfl,hbr⟩ := hrel
    have HFL := Lib.hid hfl
    have HBR := Lib.hid hbr
    have HAR := Lib.hid (HA2.out.grow hbr)
    clear hbr HA2 hfl
    by_cases hi : i < xs.length
    . obtain ⟨b,o,k',nm',n',la',ll',lc',ab',al',ac',rfl,hrg,hec⟩ := HAR.out.at_ hi
      have HSZ : Hid (formL (xs.take (i + 1)) = (formL (xs.take i) && formE xs[i])) := by show _ = _;rw [qaV (List.getElem?_eq_getElem hi),formL_snoc]
      have HRG := Lib.hid hrg
      have HFM2 := Lib.hid (HFM.out i hi)
      have HC : Hid (∀ w',Below wr.heap.size wr w' -> Calls Tryz.prog 37 #[.agg #[.int .i64 k',.string nm',.int .i64 n',.slice la' ll' lc',.slice ab' al' ac']] w' fun e w'' => e = .returned (.bool (formE xs[i])) /\ Below w'.heap.size w' w'') :=
       fun w' hb' => HIH.out xs[i] (List.getElem_mem hi) _ F w' (hec.grow hb') (HSM.out i hi) (HEM.out i hi)
      clear hrg hec HAR
      generalize formE xs[i] = z at *
      have hi0 : (0 : Int) <= (i : Int) := by omega
      have hi1 : (i : Int) < (xs.length : Int) := by omega
      have hba : Below wr.heap.size wr (wr.alloc (.cells #[.int .i64 k',.string nm',.int .i64 n',.slice la' ll' lc',.slice ab' al' ac'] 25)) := (Below.refl _ _).alloc (Nat.le_refl _) _
      have HBA := Lib.hid hba
      clear hba
      cases hz : z
      . subst hz
        go_wp2_with (first
         | (refine wpList_load_mid rfl 25 (.tmp 13) rfl b (o + i * 5) rfl [.int .i64 k',.string nm',.int .i64 n',.slice la' ll' lc',.slice ab' al' ac'] _ HRG.out Tryz.underlying25 rfl exprSize ?_)
         | (refine qaC rfl 25 (.tmp 4) (.tmp 14) rfl wr _ #[.int .i64 k',.string nm',.int .i64 n',.slice la' ll' lc',.slice ab' al' ac'] rfl rfl exprSize rfl (by simp [Value.oneCell']) ?_))
        refine (HC.out _ HBA.out).mono ?_
        rintro e w5 ⟨rfl,hb5⟩
        have HB5 := Lib.hid (HBR.out.trans ((HBA.out.trans (hb5.mono HBA.out.size)).mono HBR.out.size))
        clear hb5 HC HBR HBA
        go_wp2_with fail
        go_ret
        exact ⟨qaG (by rw [HS.out,HFM2.out trivial,Bool.and_false]),HB2.out.trans (HB5.out.mono HB2.out.size)⟩
      . subst hz
        go_wp2_with (first
         | (refine wpList_load_mid rfl 25 (.tmp 13) rfl b (o + i * 5) rfl [.int .i64 k',.string nm',.int .i64 n',.slice la' ll' lc',.slice ab' al' ac'] _ HRG.out Tryz.underlying25 rfl exprSize ?_)
         | (refine qaC rfl 25 (.tmp 4) (.tmp 14) rfl wr _ #[.int .i64 k',.string nm',.int .i64 n',.slice la' ll' lc',.slice ab' al' ac'] rfl rfl exprSize rfl (by simp [Value.oneCell']) ?_))
        refine (HC.out _ HBA.out).mono ?_
        rintro e w5 ⟨rfl,hb5⟩
        have HB5 := Lib.hid (HBR.out.trans ((HBA.out.trans (hb5.mono HBA.out.size)).mono HBR.out.size))
        clear hb5 HC HBR HBA
        go_wp2_with fail
        go_roundg (xs.length - (i + 1))
        case measure => omega
        case rel => exact ⟨i + 1,by omega,by simp,by rw [HSZ.out,HFL.out];rfl,HB5.out⟩
    . go_wp2_with fail
      go_ret
      refine ⟨qaG ?_,HB2.out.trans (HBR.out.mono HB2.out.size)⟩
      have := HFL.out
      rw [List.take_of_length_le (by omega)] at this
      rw [HS.out,hnb,this]
      rfl
def RelMeas (W : World) (b0 : Bool) (xs : List E) (v2 v3 v : Value) (g : Nat) (wr : World) : Prop :=
 ∃ i,i + g = xs.length /\ v = .int .i64 i /\ v2 = .int .i64 (depthL (xs.take i)) /\ v3 = .bool (b0 && shortL (xs.take i)) /\ Below W.heap.size W wr
theorem ret_two {a b : Int} {c d : Bool} (h : a = b) (h2 : c = d) : Ending.returned (.tuple #[.int .i64 a,.bool c]) = .returned (.tuple #[.int .i64 b,.bool d]) := by rw [h,h2]
theorem depthL_mem : ∀ (l : List E) (x : E),x ∈ l -> depthE x <= depthL l
 | y :: r,x,hm => by
   unfold depthL
   rcases List.mem_cons.1 hm with rfl | hm
   . exact Nat.le_max_left _ _
   . exact Nat.le_trans (depthL_mem r x hm) (Nat.le_max_right _ _)
set_option maxHeartbeats 4000000 in
set_option maxRecDepth 100000 in
theorem measure_c : ∀ (x : E) (cs : List Value) (F : Nat -> Prop) (w : World),ExprC w F x cs -> sizeE x <= 1000000000 -> entE x <= 9223372036854775807 ->
 Calls Tryz.prog 38 #[.agg cs.toArray] w fun e w' => e = .returned (.tuple #[.int .i64 (depthE x),.bool (shortE x)]) /\ Below w.heap.size w w' := by
 refine qaT ?_
 intro k nm n ls xs ih cs F w h hs he
 unfold ExprC at h
 obtain ⟨la,lc,aa,ac,rfl,_,ha⟩ := h
 have hs' : 1 + sizeL xs <= 1000000000 := by unfold sizeE at hs;exact hs
 have he' : ls.length + entL xs <= 9223372036854775807 := by unfold entE at he;exact he
 have hlen : xs.length <= 1000000000 := by have := qbS xs;omega
 have HIH := Lib.hid ih
 have HA : Hid (ArgsAt w F aa xs) := ha
 have HS : Hid (shortE (.mk k nm n ls xs) = (decide (ls.length <= 4096) && shortL xs)) := by show _ = _;conv => lhs;unfold shortE
 have HD : Hid (depthE (.mk k nm n ls xs) = depthL xs + 1) := by show _ = _;conv => lhs;unfold depthE
 have HSM : Hid (∀ i,(h : i < xs.length) -> sizeE xs[i] <= 1000000000) := fun i h => by have := qbW xs _ (List.getElem_mem h);omega
 have HEM : Hid (∀ i,(h : i < xs.length) -> entE xs[i] <= 9223372036854775807) := fun i h => by have := qdJ xs _ (List.getElem_mem h);omega
 have hdl : depthL xs <= 1000000000 := by have := depths_size xs;omega
 have HDM : Hid (∀ i,(h : i < xs.length) -> depthE xs[i] <= 1000000000) := fun i h => by have := depthL_mem xs _ (List.getElem_mem h);omega
 have HDT : Hid (∀ i,depthL (xs.take i) <= 1000000000) := fun i => by have h1 := depths_size (xs.take i);have h2 := qeW xs i;omega
 have hll : ls.length <= 9223372036854775807 := by omega
 clear ih ha hs he hs' he'
 go_enter Tryz.func38,Tryz.ntmps38
 go_wp2_with fail
 have hb0 : Below w.heap.size w (w.alloc (.cells #[.int .i64 k,.string ⟨nm.toArray⟩,.int .i64 n,.slice la ls.length lc,.slice aa xs.length ac] 25)) := (Below.refl _ _).alloc (Nat.le_refl _) _
 have HA2 := Lib.hid (HA.out.grow hb0)
 have HB2 := Lib.hid hb0
 clear hb0 HA
 generalize w.alloc (.cells #[.int .i64 k,.string ⟨nm.toArray⟩,.int .i64 n,.slice la ls.length lc,.slice aa xs.length ac] 25) = W at *
 go_loopg [2,3,15] xs.length (fun g v2 v3 v wr => RelMeas W (decide (ls.length <= 4096)) xs v2 v3 v g wr)
 case atStart => exact ⟨0,by omega,rfl,by simp [depthL],by simp [shortL];omega,Below.refl _ _⟩
 case round =>
  obtain ⟨i,hig,rfl,rfl,rfl,hbr⟩ := hrel
  have HBR := Lib.hid hbr
  have HAR := Lib.hid (HA2.out.grow hbr)
  clear hbr HA2
  by_cases hi : i < xs.length
  . obtain ⟨b,o,k',nm',n',la',ll',lc',ab',al',ac',rfl,hrg,hec⟩ := HAR.out.at_ hi
    have HSZ : Hid ((decide (ls.length <= 4096) && shortL (xs.take (i + 1))) = ((decide (ls.length <= 4096) && shortL (xs.take i)) && shortE xs[i])) := by show _ = _;rw [qaV (List.getElem?_eq_getElem hi),qfH,Bool.and_assoc]
    have HDZ : Hid (depthL (xs.take (i + 1)) = Nat.max (depthL (xs.take i)) (depthE xs[i])) := by show _ = _;rw [qaV (List.getElem?_eq_getElem hi),qfG]
    have HRG := Lib.hid hrg
    have HC : Hid (∀ w',Below wr.heap.size wr w' -> Calls Tryz.prog 38 #[.agg #[.int .i64 k',.string nm',.int .i64 n',.slice la' ll' lc',.slice ab' al' ac']] w' fun e w'' => e = .returned (.tuple #[.int .i64 (depthE xs[i]),.bool (shortE xs[i])]) /\ Below w'.heap.size w' w'') :=
     fun w' hb' => HIH.out xs[i] (List.getElem_mem hi) _ F w' (hec.grow hb') (HSM.out i hi) (HEM.out i hi)
    have hz1 := HDM.out i hi
    have hz2 := HDT.out i
    clear hrg hec HAR
    generalize shortE xs[i] = z at *
    generalize depthE xs[i] = dz at *
    generalize depthL (xs.take i) = dy at *
    generalize (decide (ls.length <= 4096) && shortL (xs.take i)) = bz at *
    have hi0 : (0 : Int) <= (i : Int) := by omega
    have hi1 : (i : Int) < (xs.length : Int) := by omega
    have hba : Below wr.heap.size wr (wr.alloc (.cells #[.int .i64 k',.string nm',.int .i64 n',.slice la' ll' lc',.slice ab' al' ac'] 25)) := (Below.refl _ _).alloc (Nat.le_refl _) _
    have HBA := Lib.hid hba
    clear hba
    go_wp2_with (first
     | (refine wpList_load_mid rfl 25 (.tmp 17) rfl b (o + i * 5) rfl [.int .i64 k',.string nm',.int .i64 n',.slice la' ll' lc',.slice ab' al' ac'] _ HRG.out Tryz.underlying25 rfl exprSize ?_)
     | (refine qaC rfl 25 (.tmp 5) (.tmp 18) rfl wr _ #[.int .i64 k',.string nm',.int .i64 n',.slice la' ll' lc',.slice ab' al' ac'] rfl rfl exprSize rfl (by simp [Value.oneCell']) ?_))
    refine (HC.out _ HBA.out).mono ?_
    rintro e w5 ⟨rfl,hb5⟩
    have HB5 := Lib.hid (HBR.out.trans ((HBA.out.trans (hb5.mono HBA.out.size)).mono HBR.out.size))
    clear hb5 HC HBR HBA
    go_wp2_with fail
    all_goals
     go_roundg (xs.length - (i + 1))
     case measure => omega
     case rel => exact ⟨i + 1,by omega,by simp,by rw [HDZ.out];simp [Nat.max_def];repeat (first | rfl | omega | split),by rw [HSZ.out];simp [*],HB5.out⟩
  . have hz2 := HDT.out i
    go_wp2_with fail
    go_ret2
    refine ⟨ret_two ?_ ?_,HB2.out.trans (HBR.out.mono HB2.out.size)⟩
    . rw [HD.out,List.take_of_length_le (by omega)]
      simp
    . rw [HS.out,List.take_of_length_le (by omega)]
end Go.Proofs.YtaddcadapbpkfaaGreatDoor
