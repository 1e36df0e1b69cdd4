/-
  The law CompileFields.
-/
import Derived.Test.YtaddcadapbpkfaaGreatDoorQ49
import Derived.Test.YtaddcadapbpkfaaGreatDoorQ50
namespace Go.Proofs.YtaddcadapbpkfaaGreatDoor
open Go.RowKit Pln

def ErrF (r : FR) : Prop := (r.e ≠ 0 -> r = .err r.e) /\ r.mod.length <= 1000000
theorem errF_err (e : Int) : ErrF (.err e) := ⟨fun _ => rfl,Nat.zero_le _⟩
theorem mGo_le (q p : Nat) : ∀ f m,mGo q p m f <= m + f
  | 0,m => Nat.le_refl _
  | f + 1,m => by
    unfold mGo
    split
    . have := mGo_le q p f (m + 1)
      omega
    . omega
theorem errF_vGo (p m : Nat) (hm : m <= 1000) : ∀ f v,ErrF (vGo p m v f)
  | 0,v => errF_err 6
  | f + 1,v => by
    unfold vGo
    split
    . exact ⟨fun h => absurd rfl h,by show (nz (digs p m v)).length <= _;rw [nz_len,digs_len];omega⟩
    . exact errF_vGo p m hm f (v + 1)
theorem errF_stdM (q : Int) : ErrF (stdM q) := by
  unfold stdM
  split
  . exact errF_err 6
  . unfold stdN
    split
    . split
      . exact ⟨fun h => absurd rfl h,Nat.zero_le _⟩
      . exact errF_vGo _ _ (by have := mGo_le q.toNat (pM q.toNat) 8 1;unfold mM;omega) _ _
    . exact errF_err 6
theorem errF_chkR (p m : Int) (l : List Int) (hl : l.length <= 1000000) : ErrF (chkR p m l) := by
  unfold chkR
  split
  . exact ⟨fun h => absurd rfl h,hl⟩
  . exact errF_err 1
theorem errF_law (x : E) (hl : ∀ y,y ∈ argsOf x -> y.ls.length <= 1000000) : ErrF (lawFR x) := by
  cases x with
  | mk k nm n ls xs =>
    cases hr : rowM k nm xs.length true with
    | error e => rw [lawFR_err hr];exact errF_err e
    | ok ks =>
      rw [lawFR_ok hr]
      obtain ⟨_,_,hks⟩ := rowM_fld hr
      unfold lawR
      cases hm : meanL S0 xs ks with
      | error e => exact errF_err e
      | ok vs =>
        rcases hks with ⟨h1,rfl⟩ | ⟨h3,rfl⟩
        . obtain ⟨x0,rfl⟩ : ∃ x0,xs = [x0] := List.length_eq_one_iff.1 h1
          have hvs := meanL_one hm
          subst hvs
          exact errF_stdM _
        . obtain ⟨x0,x1,x2,rfl⟩ := len_three h3
          have hvs := meanL_three hm
          subst hvs
          exact errF_chkR _ _ _ (hl x2 (by show x2 ∈ [x0,x1,x2];simp))
theorem errF_meaning (x : E) (hl : ∀ y,y ∈ argsOf x -> y.ls.length <= 1000000) : ErrF (meaningFR x) := by
  unfold meaningFR
  split
  . exact errF_law x hl
  . exact errF_err _
theorem field_is (x : E) (hl : ∀ y,y ∈ argsOf x -> y.ls.length <= 1000000) {w : World} {e : Ending} {w' : World} (h : FieldPost w (startM S0 x true) e w') :
    ∃ (A : Option Addr) (c : Nat),e = .returned (.tuple #[.agg #[.int .i64 (meaningFR x).p,.int .i64 (meaningFR x).m,.slice A (meaningFR x).mod.length c],.int .i64 (meaningFR x).e]) /\ IntsAt w' w'.heap.size A (meaningFR x).mod /\ Below w.heap.size w w' := by
  obtain ⟨⟨p,m,mod,A,c,k,rfl,hA,hr⟩,hb⟩ := h
  rw [start0] at hr
  have hE := errF_meaning x hl
  by_cases hc : checkE x = 0
  . rw [if_pos hc] at hr
    have hm : meaningFR x = lawFR x := if_pos hc
    rw [hm] at hE ⊢
    generalize lawFR x = r at *
    unfold fldRes at hr
    by_cases he : r.e = 0
    . rw [if_pos he] at hr
      obtain ⟨rfl,rfl,rfl,rfl⟩ := hr
      exact ⟨A,c,by rw [he],hA,hb⟩
    . rw [if_neg he] at hr
      obtain ⟨rfl,_,rfl,rfl,rfl⟩ := hr
      have h1 := hE.1 he
      have hp : r.p = 0 := by rw [h1];rfl
      have hmm : r.m = 0 := by rw [h1];rfl
      have hmo : r.mod = [] := by rw [h1];rfl
      rw [hp,hmm,hmo]
      exact ⟨A,c,rfl,hA,hb⟩
  . rw [if_neg hc] at hr
    have hm : meaningFR x = .err (checkE x) := if_neg hc
    rw [hm]
    obtain ⟨rfl,_,rfl,rfl,rfl⟩ := hr
    exact ⟨A,c,rfl,hA,hb⟩
theorem args_small {x : E} (h1 : sizeE x <= 40) (h2 : bndE x) : (argsOf x).length <= 1000000 /\ (∀ y,y ∈ argsOf x -> y.ls.length <= 1000000) /\ sizeE x <= 1000000000 /\ entE x <= 9223372036854775807 := by
  have he := ent_bnd x h2
  cases x with
  | mk k nm n ls xs =>
    unfold bndE at h2
    have hs := h1
    unfold sizeE at hs
    have hl := len_sizeL xs
    refine ⟨by show xs.length <= _;omega,fun y hy => ?_,by omega,by omega⟩
    have := bndL_mem xs y h2.2.2 hy
    cases y with
    | mk k' nm' n' ls' xs' =>
      unfold bndE at this
      show ls'.length <= _
      omega

set_option maxHeartbeats 4000000 in
set_option maxRecDepth 100000 in
theorem lawFields_c (x : E) (cs : List Value) (F : Nat -> Prop) (w : World) (h : ExprC w F x cs) (hok : okE x) (hp : Pows w) :
    Calls Tryz.prog 3 #[.agg cs.toArray] w fun e w' => e = .returned (.bool true) /\ Below w.heap.size w w' := by
  obtain ⟨k,nm,n,la,ll,lc,aa,al,ac,rfl⟩ := h.shape
  have HX := Lib.hid (bx1 w #[.int .i64 k,.string nm,.int .i64 n,.slice la ll lc,.slice aa al ac] 25)
  have HWL : Hid ((w.alloc (.cells #[.int .i64 k,.string nm,.int .i64 n,.slice la ll lc,.slice aa al ac] 25)).heap.size = w.heap.size + 1) := by show _ = _;simp
  have HE : Hid (∀ W,Below w.heap.size w W -> ExprC W (· < w.heap.size) x [.int .i64 k,.string nm,.int .i64 n,.slice la ll lc,.slice aa al ac]) := fun W hW => ExprC.mono (fun b hb _ => ⟨hb,hW.block b hb⟩) _ _ h.all
  have HP : Hid (∀ W,Below w.heap.size w W -> Pows W) := fun W hW => hp.keep hp.lt hW
  have HOK := Lib.hid hok
  clear h hp hok
  go_enter Tryz.func3,Tryz.ntmps3
  go_upto_region 1 with fail
  generalize w.alloc (.cells #[.int .i64 k,.string nm,.int .i64 n,.slice la ll lc,.slice aa al ac] 25) = W at *
  have HXR : Hid (W.rangeAt w.heap.size 0 [.int .i64 k,.string nm,.int .i64 n,.slice la ll lc,.slice aa al ac]) := range_of_row (HX.out.at_ (i := 0) rfl)
  have hW : w.heap.size < W.heap.size := by have := HWL.out;omega
  go_wp2_with fail
  refine (alive_c W (HP.out W HX.out.below)).mono ?_
  rintro e w1 ⟨rfl,hb1⟩
  have HB1 := Lib.hid (HX.out.below.trans (hb1.mono HX.out.below.size))
  have HX1 := Lib.hid (range_keep HXR.out (hb1.block _ hW))
  have hW1 : w.heap.size < w1.heap.size := Nat.lt_of_lt_of_le hW hb1.size
  clear hb1 HXR HX
  go_wp2_with (refine wpList_load_mid rfl 25 (.tmp 1) rfl w.heap.size 0 rfl [.int .i64 k,.string nm,.int .i64 n,.slice la ll lc,.slice aa al ac] _ HX1.out Tryz.underlying25 rfl exprSize ?_)
  refine (small_c x [.int .i64 k,.string nm,.int .i64 n,.slice la ll lc,.slice aa al ac] (· < w.heap.size) 8 w1 (HE.out w1 HB1.out) HOK.out (by decide)).mono ?_
  rintro e w2 ⟨b,rfl,hb2,ht⟩
  have HB2 := Lib.hid (HB1.out.trans (hb2.mono HB1.out.size))
  have HX2 := Lib.hid (range_keep HX1.out (hb2.block _ hW1))
  have hW2 : w.heap.size < w2.heap.size := Nat.lt_of_lt_of_le hW1 hb2.size
  have HT := Lib.hid ht
  clear hb2 HX1 HB1 ht
  cases b
  . go_wp2_with fail
    go_ret
    exact ⟨rfl,HB2.out⟩
  obtain ⟨hs,hbn⟩ := HT.out rfl
  obtain ⟨h1,h2,h3,h4⟩ := args_small hs hbn
  have HF : Hid (∀ W,Below w.heap.size w W -> Calls Tryz.prog 7 #[.agg #[.int .i64 k,.string nm,.int .i64 n,.slice la ll lc,.slice aa al ac]] W (FieldPost W (startM S0 x true))) := fun W hW => Field_c x [.int .i64 k,.string nm,.int .i64 n,.slice la ll lc,.slice aa al ac] w.heap.size W h2 (HE.out W hW) hW.size h3 h4 (HP.out W hW)
  have HM : Hid (∀ W,Below w.heap.size w W -> Calls Tryz.prog 8 #[.agg #[.int .i64 k,.string nm,.int .i64 n,.slice la ll lc,.slice aa al ac],.int .u8 70] W (LawPost W (· < w.heap.size) (meaningFR x))) := fun W hW => meaning_c x [.int .i64 k,.string nm,.int .i64 n,.slice la ll lc,.slice aa al ac] w.heap.size W (HE.out W hW) hW.size h1 h2 h3 h4
  have HFI : Hid (∀ (w : World) (e : Ending) (w' : World),FieldPost w (startM S0 x true) e w' -> ∃ (A : Option Addr) (c : Nat),e = .returned (.tuple #[.agg #[.int .i64 (meaningFR x).p,.int .i64 (meaningFR x).m,.slice A (meaningFR x).mod.length c],.int .i64 (meaningFR x).e]) /\ IntsAt w' w'.heap.size A (meaningFR x).mod /\ Below w.heap.size w w') := fun w e w' h => field_is x h2 h
  have HEF := Lib.hid (errF_meaning x h2).2
  clear hs hbn h1 h2 h3 h4 HT HOK
  generalize meaningFR x = r at *
  go_wp2_with (refine wpList_load_mid rfl 25 (.tmp 1) rfl w.heap.size 0 rfl [.int .i64 k,.string nm,.int .i64 n,.slice la ll lc,.slice aa al ac] _ HX2.out Tryz.underlying25 rfl exprSize ?_)
  refine (HF.out w2 HB2.out).mono ?_
  intro e w3 hfp
  obtain ⟨A,c,rfl,hA,hb3⟩ := HFI.out _ _ _ hfp
  have HB4 : Hid (Below w2.heap.size w2 (w3.alloc (.cells #[.int .i64 r.p,.int .i64 r.m,.slice A r.mod.length c] 29))) := hb3.alloc hb3.size _
  have HBW4 : Hid (Below w.heap.size w (w3.alloc (.cells #[.int .i64 r.p,.int .i64 r.m,.slice A r.mod.length c] 29))) := HB2.out.trans (HB4.out.mono HB2.out.size)
  have HX4 : Hid ((w3.alloc (.cells #[.int .i64 r.p,.int .i64 r.m,.slice A r.mod.length c] 29)).rangeAt w.heap.size 0 [.int .i64 k,.string nm,.int .i64 n,.slice la ll lc,.slice aa al ac]) := range_keep HX2.out (HB4.out.block _ hW2)
  have HR4 : Hid ((w3.alloc (.cells #[.int .i64 r.p,.int .i64 r.m,.slice A r.mod.length c] 29)).rangeAt w3.heap.size 0 [.int .i64 r.p,.int .i64 r.m,.slice A r.mod.length c]) := range_of_row (heap_alloc_new _ _)
  have HA4 : Hid (IntsAt (w3.alloc (.cells #[.int .i64 r.p,.int .i64 r.m,.slice A r.mod.length c] 29)) (w3.alloc (.cells #[.int .i64 r.p,.int .i64 r.m,.slice A r.mod.length c] 29)).heap.size A r.mod) := (hA.keep ((Below.refl _ _).alloc (Nat.le_refl _) _)).more (by simp)
  have hl4 : w3.heap.size < (w3.alloc (.cells #[.int .i64 r.p,.int .i64 r.m,.slice A r.mod.length c] 29)).heap.size := by simp
  clear hfp hA hb3 HF HFI HX2 HB2 HB4
  go_wp2_with (first
    | (refine wpList_store_new rfl 29 (.tmp 3) (.tmp 15) rfl w3 _ #[.int .i64 r.p,.int .i64 r.m,.slice A r.mod.length c] rfl rfl fieldSize rfl (by simp [Value.oneCell']) ?_)
    | (refine wpList_load_mid rfl 25 (.tmp 1) rfl w.heap.size 0 rfl [.int .i64 k,.string nm,.int .i64 n,.slice la ll lc,.slice aa al ac] _ HX4.out Tryz.underlying25 rfl exprSize ?_))
  generalize (w3.alloc (.cells #[.int .i64 r.p,.int .i64 r.m,.slice A r.mod.length c] 29)) = W4 at *
  generalize w3.heap.size = bF at *
  refine (HM.out W4 HBW4.out).mono ?_
  rintro e w5 ⟨⟨A2,c2,rfl,hA2⟩,hb5⟩
  have HB6 : Hid (Below W4.heap.size W4 (w5.alloc (.cells #[.int .i64 r.p,.int .i64 r.m,.slice A2 r.mod.length c2,.int .i64 0,.int .i64 0,.slice none 0 0,.int .i64 0,.slice none 0 0,.int .i64 0,.slice none 0 0] 37))) := hb5.alloc hb5.size _
  have HBW6 : Hid (Below w.heap.size w (w5.alloc (.cells #[.int .i64 r.p,.int .i64 r.m,.slice A2 r.mod.length c2,.int .i64 0,.int .i64 0,.slice none 0 0,.int .i64 0,.slice none 0 0,.int .i64 0,.slice none 0 0] 37))) := HBW4.out.trans (HB6.out.mono HBW4.out.size)
  have HR6 : Hid ((w5.alloc (.cells #[.int .i64 r.p,.int .i64 r.m,.slice A2 r.mod.length c2,.int .i64 0,.int .i64 0,.slice none 0 0,.int .i64 0,.slice none 0 0,.int .i64 0,.slice none 0 0] 37)).rangeAt bF 0 [.int .i64 r.p,.int .i64 r.m,.slice A r.mod.length c]) := range_keep HR4.out (HB6.out.block _ hl4)
  have HV6 : Hid ((w5.alloc (.cells #[.int .i64 r.p,.int .i64 r.m,.slice A2 r.mod.length c2,.int .i64 0,.int .i64 0,.slice none 0 0,.int .i64 0,.slice none 0 0,.int .i64 0,.slice none 0 0] 37)).rangeAt w5.heap.size 0 [.int .i64 r.p,.int .i64 r.m,.slice A2 r.mod.length c2]) := by
    have h1 := range_of_row (heap_alloc_new w5 (.cells #[.int .i64 r.p,.int .i64 r.m,.slice A2 r.mod.length c2,.int .i64 0,.int .i64 0,.slice none 0 0,.int .i64 0,.slice none 0 0,.int .i64 0,.slice none 0 0] 37))
    intro j v hj
    match j,hj with
    | 0,hj => exact h1 0 v hj
    | 1,hj => exact h1 1 v hj
    | 2,hj => exact h1 2 v hj
    | j + 3,hj => simp at hj
  have HS6 : Hid (Calls Tryz.prog 9 #[.agg #[.int .i64 r.p,.int .i64 r.m,.slice A r.mod.length c],.agg #[.int .i64 r.p,.int .i64 r.m,.slice A2 r.mod.length c2]] (w5.alloc (.cells #[.int .i64 r.p,.int .i64 r.m,.slice A2 r.mod.length c2,.int .i64 0,.int .i64 0,.slice none 0 0,.int .i64 0,.slice none 0 0,.int .i64 0,.slice none 0 0] 37)) fun e w' => e = .returned (.bool true) /\ Below (w5.alloc (.cells #[.int .i64 r.p,.int .i64 r.m,.slice A2 r.mod.length c2,.int .i64 0,.int .i64 0,.slice none 0 0,.int .i64 0,.slice none 0 0,.int .i64 0,.slice none 0 0] 37)).heap.size (w5.alloc (.cells #[.int .i64 r.p,.int .i64 r.m,.slice A2 r.mod.length c2,.int .i64 0,.int .i64 0,.slice none 0 0,.int .i64 0,.slice none 0 0,.int .i64 0,.slice none 0 0] 37)) w') :=
    fsame_c r.p r.m r.mod A A2 c c2 _ ((HA4.out.keep HB6.out).more HB6.out.size) (((hA2.at_).keep ((Below.refl _ _).alloc (Nat.le_refl _) _)).more (by simp)) (by have := HEF.out;omega)
  have y0 : (w5.alloc (.cells #[.int .i64 r.p,.int .i64 r.m,.slice A2 r.mod.length c2,.int .i64 0,.int .i64 0,.slice none 0 0,.int .i64 0,.slice none 0 0,.int .i64 0,.slice none 0 0] 37)).cell? ⟨bF,0,none⟩ = some (.int .i64 r.p) := HR6.out 0 _ rfl
  have y1 : (w5.alloc (.cells #[.int .i64 r.p,.int .i64 r.m,.slice A2 r.mod.length c2,.int .i64 0,.int .i64 0,.slice none 0 0,.int .i64 0,.slice none 0 0,.int .i64 0,.slice none 0 0] 37)).cell? ⟨bF,1,none⟩ = some (.int .i64 r.m) := HR6.out 1 _ rfl
  have y2 : (w5.alloc (.cells #[.int .i64 r.p,.int .i64 r.m,.slice A2 r.mod.length c2,.int .i64 0,.int .i64 0,.slice none 0 0,.int .i64 0,.slice none 0 0,.int .i64 0,.slice none 0 0] 37)).cell? ⟨bF,2,none⟩ = some (.slice A r.mod.length c) := HR6.out 2 _ rfl
  have z0 : (w5.alloc (.cells #[.int .i64 r.p,.int .i64 r.m,.slice A2 r.mod.length c2,.int .i64 0,.int .i64 0,.slice none 0 0,.int .i64 0,.slice none 0 0,.int .i64 0,.slice none 0 0] 37)).cell? ⟨w5.heap.size,0,none⟩ = some (.int .i64 r.p) := HV6.out 0 _ rfl
  have z1 : (w5.alloc (.cells #[.int .i64 r.p,.int .i64 r.m,.slice A2 r.mod.length c2,.int .i64 0,.int .i64 0,.slice none 0 0,.int .i64 0,.slice none 0 0,.int .i64 0,.slice none 0 0] 37)).cell? ⟨w5.heap.size,1,none⟩ = some (.int .i64 r.m) := HV6.out 1 _ rfl
  have z2 : (w5.alloc (.cells #[.int .i64 r.p,.int .i64 r.m,.slice A2 r.mod.length c2,.int .i64 0,.int .i64 0,.slice none 0 0,.int .i64 0,.slice none 0 0,.int .i64 0,.slice none 0 0] 37)).cell? ⟨w5.heap.size,2,none⟩ = some (.slice A2 r.mod.length c2) := HV6.out 2 _ rfl
  clear hA2 hb5 HM HX4 HR4 HA4 HB6 HBW4 HR6 HV6
  go_wp2_with (first
    | (refine wpList_store_new rfl 37 (.tmp 5) (.tmp 20) rfl w5 _ #[.int .i64 r.p,.int .i64 r.m,.slice A2 r.mod.length c2,.int .i64 0,.int .i64 0,.slice none 0 0,.int .i64 0,.slice none 0 0,.int .i64 0,.slice none 0 0] rfl rfl lawvSize rfl (by simp [Value.oneCell']) ?_))
  refine HS6.out.mono ?_
  rintro e w7 ⟨rfl,hb7⟩
  have HB7 := Lib.hid (HBW6.out.trans (hb7.mono HBW6.out.size))
  clear hb7 HS6 HBW6
  go_wp2_with fail
  go_ret
  exact ⟨rfl,HB7.out⟩
end Go.Proofs.YtaddcadapbpkfaaGreatDoor

