/-
  The law's meaning of a field; compile.start and compile.Field. compile.start and compile.Field.
-/
import Derived.Laws.IdiomRangeMap
import Derived.Test.YtaddcadapbpkfaaGreatDoorQ38
namespace Go.Proofs.YtaddcadapbpkfaaGreatDoor
open Go.RowKit Pln

theorem rowM_ne {k : Int} {nm : List UInt8} {n : Nat} {isF : Bool} {e : Int} (h : rowM k nm n isF = .error e) : e ≠ 0 := by
  unfold rowM at h
  repeat' split at h
  all_goals first
    | (injection h with h;subst h;decide)
    | cases h
theorem rowM_fld {k : Int} {nm : List UInt8} {n : Nat} {ks : List UInt8} (h : rowM k nm n true = .ok ks) : k = 3 /\ nm = gfN /\ ((n = 1 /\ ks = [78]) \/ (n = 3 /\ ks = [78,78,76])) := by
  unfold rowM at h
  split at h
  . cases h
  . split at h
    . rename_i h3
      split at h
      . rename_i hg
        rw [if_pos rfl] at h
        split at h
        . rename_i h1
          injection h with h
          exact ⟨h3,hg,.inl ⟨h1,h.symm⟩⟩
        . split at h
          . rename_i h1
            injection h with h
            exact ⟨h3,hg,.inr ⟨h1,h.symm⟩⟩
          . cases h
      . split at h <;> cases h
    . cases h
def litK (ks : List UInt8) : Prop := ∀ kd,kd ∈ ks -> kd = 78 \/ kd = 76
theorem litK_of {m : Nat} {ks : List UInt8} (hk : (m = 1 /\ ks = [78]) \/ (m = 3 /\ ks = [78,78,76])) : litK ks := fun kd hm => by
  rcases hk with ⟨_,rfl⟩ | ⟨_,rfl⟩
  . simp at hm
    exact .inl hm
  . simp at hm
    exact hm
theorem argM_lit {S : Sem} {x : E} {kd : UInt8} (h : kd = 78 \/ kd = 76) : argM S x kd = litM x.k x.n x.ls kd := if_neg (by rcases h with h | h <;> rw [h] <;> decide)
theorem litM_ne {k n : Int} {ls : List Int} {kd : UInt8} {e : Int} (h : litM k n ls kd = .error e) : e ≠ 0 := by
  unfold litM at h
  repeat' split at h
  all_goals first
    | (injection h with h;subst h;decide)
    | cases h
theorem meanL_ne {S : Sem} : ∀ {xs : List E} {ks : List UInt8} {e : Int},litK ks -> meanL S xs ks = .error e -> e ≠ 0
  | [],ks,e,_,h => by
    unfold meanL at h
    cases h
  | x :: r,[],e,_,h => by
    unfold meanL at h
    cases h
  | x :: r,kd :: ks,e,hk,h => by
    rw [meanL_cons,argM_lit (hk kd (by simp))] at h
    split at h
    . rename_i e' he
      injection h with h
      subst h
      exact litM_ne he
    . split at h
      . rename_i e' he
        injection h with h
        subst h
        exact meanL_ne (fun k hm => hk k (by simp [hm])) he
      . cases h
theorem supL_lit {S : Sem} : ∀ {xs : List E} {ks : List UInt8},litK ks -> SupL S xs ks
  | [],ks,_ => by unfold SupL;trivial
  | x :: r,[],_ => by unfold SupL;trivial
  | x :: r,kd :: ks,hk => by
    unfold SupL
    exact ⟨fun h => by
      rcases hk kd (by simp) with h1 | h1 <;> rw [h1] at h <;> rcases h with h | h <;> exact absurd h (by decide),supL_lit fun k hm => hk k (by simp [hm])⟩
theorem meanL_lit {S : Sem} {x : E} {r : List E} {kd : UInt8} {ks : List UInt8} {vs : List VM} (hk : kd = 78 \/ kd = 76) (h : meanL S (x :: r) (kd :: ks) = .ok vs) : ∃ v vs',vs = v :: vs' /\ litM x.k x.n x.ls kd = .ok v /\ meanL S r ks = .ok vs' := by
  rw [meanL_cons,argM_lit hk] at h
  split at h
  . cases h
  . rename_i v hv
    split at h
    . cases h
    . rename_i vs' hvs
      injection h with h
      exact ⟨v,vs',h.symm,hv,hvs⟩
theorem meanL_nil {S : Sem} {vs : List VM} (h : meanL S [] [] = .ok vs) : vs = [] := by
  unfold meanL at h
  injection h with h
  exact h.symm
theorem meanL_one {S : Sem} {x : E} {vs : List VM} (h : meanL S [x] [78] = .ok vs) : vs = [.num x.n] := by
  obtain ⟨v,vs',rfl,hv,h⟩ := meanL_lit (.inl rfl) h
  rw [lit_num hv,meanL_nil h]
theorem meanL_three {S : Sem} {x y z : E} {vs : List VM} (h : meanL S [x,y,z] [78,78,76] = .ok vs) : vs = [.num x.n,.num y.n,.lst z.ls] := by
  obtain ⟨v,vs',rfl,hv,h⟩ := meanL_lit (.inl rfl) h
  obtain ⟨u,us',rfl,hu,h⟩ := meanL_lit (.inl rfl) h
  obtain ⟨t,ts',rfl,ht,h⟩ := meanL_lit (.inr rfl) h
  rw [lit_num hv,lit_num hu,lit_lst ht,meanL_nil h]
theorem callT1 : ∀ (xs : Array Value) (w : World),(callFunc 46 xs).run Tryz.prog w = .ok (.enter 46 xs) w := fun xs w => by kernel_rfl
theorem callT2 : ∀ (xs : Array Value) (w : World),(callFunc 48 xs).run Tryz.prog w = .ok (.enter 48 xs) w := fun xs w => by kernel_rfl
theorem callR1 : ∀ (xs : Array Value) (w : World),(callFunc 81 xs).run Tryz.prog w = .ok (.enter 81 xs) w := fun xs w => by kernel_rfl
theorem gf_ct {xs : List E} {ks : List UInt8} {vs : List VM} (hk : (xs.length = 1 /\ ks = [78]) \/ (xs.length = 3 /\ ks = [78,78,76])) (hl : ∀ x,x ∈ xs -> x.ls.length <= 1000000) {S : Sem} (h : meanL S xs ks = .ok vs) : RowCt gfN ks vs (S0 gfN vs) := by
  intro w F g v1 v2 hri hv
  rcases hri with ⟨_,b,rfl,hcap⟩ | ⟨hne,_⟩
  . refine ⟨81,b,rfl,callR1,?_⟩
    rcases hk with ⟨h1,rfl⟩ | ⟨h3,rfl⟩
    . obtain ⟨x0,rfl⟩ : ∃ x0,xs = [x0] := List.length_eq_one_iff.1 h1
      have hvs := meanL_one h
      subst hvs
      rcases hcap with ⟨_,hcap⟩ | ⟨hne,_⟩
      . exact fieldRow1_c 46 b _ (stdM x0.n) F w callT1 hcap fun W hW => table1_c g 1 x0.n F W (hv.keep hW)
      . cases hne
    . obtain ⟨x0,x1,x2,rfl⟩ := len_three h3
      have hvs := meanL_three h
      subst hvs
      rcases hcap with ⟨hne,_⟩ | ⟨_,hcap⟩
      . cases hne
      . exact fieldRow1_c 48 b _ (chkR x0.n x1.n x2.ls) F w callT2 hcap fun W hW => table2_c g 3 x0.n x1.n x2.ls F W (hv.keep hW) (hl x2 (by simp))
  . exact absurd rfl hne
def lawFR : E -> FR
  | .mk k nm _ _ xs => match rowM k nm xs.length true with
    | .error e => .err e
    | .ok ks => lawR xs ks
def argsOf : E -> List E
  | .mk _ _ _ _ xs => xs
theorem sup0 (x : E) (hl : ∀ y,y ∈ argsOf x -> y.ls.length <= 1000000) : SupE S0 x true := by
  cases x with
  | mk k nm n ls xs =>
    unfold SupE
    intro ks hk
    obtain ⟨rfl,rfl,hks⟩ := rowM_fld hk
    exact ⟨supL_lit (litK_of hks),fun vs hvs => gf_ct hks hl hvs⟩
theorem lawFR_err {k : Int} {nm : List UInt8} {n : Int} {ls : List Int} {xs : List E} {e : Int} (h : rowM k nm xs.length true = .error e) : lawFR (.mk k nm n ls xs) = .err e := by
  show (match rowM k nm xs.length true with | .error e => FR.err e | .ok ks => lawR xs ks) = _
  rw [h]
theorem lawFR_ok {k : Int} {nm : List UInt8} {n : Int} {ls : List Int} {xs : List E} {ks : List UInt8} (h : rowM k nm xs.length true = .ok ks) : lawFR (.mk k nm n ls xs) = lawR xs ks := by
  show (match rowM k nm xs.length true with | .error e => FR.err e | .ok ks => lawR xs ks) = _
  rw [h]
theorem mean0_ok {S : Sem} {k : Int} {nm : List UInt8} {n : Int} {ls : List Int} {xs : List E} {isF : Bool} {ks : List UInt8} (h : rowM k nm xs.length isF = .ok ks) : meanM S (.mk k nm n ls xs) isF = match meanL S xs ks with | .error e => .error e | .ok vs => S nm vs := by
  unfold meanM
  rw [h]
  rfl
theorem mean0 (x : E) : meanM S0 x true = fldRes (lawFR x) := by
  cases x with
  | mk k nm n ls xs =>
    cases hr : rowM k nm xs.length true with
    | error e =>
      have := rowM_ne hr
      rw [mean0_err hr,lawFR_err hr]
      unfold fldRes
      rw [if_neg (show ¬ (FR.err e).e = 0 from this)]
      rfl
    | ok ks =>
      obtain ⟨rfl,rfl,hks⟩ := rowM_fld hr
      rw [lawFR_ok hr,mean0_ok hr]
      unfold lawR
      cases hm : meanL S0 xs ks with
      | error e =>
        have := meanL_ne (litK_of hks) hm
        show Except.error e = fldRes (.err e)
        unfold fldRes
        rw [if_neg (show ¬ (FR.err e).e = 0 from this)]
        rfl
      | ok vs =>
        rcases hks with ⟨h1,rfl⟩ | ⟨h3,rfl⟩
        . obtain ⟨x0,rfl⟩ : ∃ x0,xs = [x0] := List.length_eq_one_iff.1 h1
          have hvs := meanL_one hm
          subst hvs
          rfl
        . obtain ⟨x0,x1,x2,rfl⟩ := len_three h3
          have hvs := meanL_three hm
          subst hvs
          rfl
theorem lmean_c (x : E) (cs : List Value) (B : Nat) (w : World) (h : ExprC w (· < B) x cs) (hB : B <= w.heap.size) (ha : (argsOf x).length <= 1000000) (hl : ∀ y,y ∈ argsOf x -> y.ls.length <= 1000000) :
    Calls Tryz.prog 22 #[.agg cs.toArray,.int .u8 70] w (LawPost w (· < B) (lawFR x)) := by
  cases x with
  | mk k nm n ls xs =>
    unfold ExprC at h
    obtain ⟨la,lc,aa,ac,rfl,hli,har⟩ := h
    cases hr : rowM k nm xs.length true with
    | error e => rw [lawFR_err hr];exact lmean_err k nm n la ls.length lc aa xs.length ac w _ e hr ha
    | ok ks =>
      obtain ⟨rfl,rfl,hks⟩ := rowM_fld hr
      rw [lawFR_ok hr]
      exact lmean_ok n xs ks la ls.length lc aa ac B w hks har hB hl
def meaningFR (x : E) : FR := if checkE x = 0 then lawFR x else .err (checkE x)

set_option maxHeartbeats 4000000 in
set_option maxRecDepth 100000 in
theorem meaning_c (x : E) (cs : List Value) (B : Nat) (w : World) (h : ExprC w (· < B) x cs) (hB : B <= w.heap.size) (ha : (argsOf x).length <= 1000000) (hl : ∀ y,y ∈ argsOf x -> y.ls.length <= 1000000) (hs : sizeE x <= 1000000000) (he : entE x <= 9223372036854775807) :
    Calls Tryz.prog 8 #[.agg cs.toArray,.int .u8 70] w (LawPost w (· < B) (meaningFR x)) := by
  obtain ⟨k,nm,n,la,ll,lc,aa,al,ac,rfl⟩ := h.shape
  have HX := Lib.hid (bx2 w #[.int .i64 k,.string nm,.int .i64 n,.slice la ll lc,.slice aa al ac] #[.int .i64 0,.int .i64 0,.slice none 0 0,.int .i64 0,.int .i64 0,.slice none 0 0,.int .i64 0,.slice none 0 0,.int .i64 0,.slice none 0 0] 25 37)
  have HWL : Hid (((w.alloc (.cells #[.int .i64 k,.string nm,.int .i64 n,.slice la ll lc,.slice aa al ac] 25)).alloc (.cells #[.int .i64 0,.int .i64 0,.slice none 0 0,.int .i64 0,.int .i64 0,.slice none 0 0,.int .i64 0,.slice none 0 0,.int .i64 0,.slice none 0 0] 37)).heap.size = w.heap.size + 2) := by show _ = _;simp
  have HH := Lib.hid h
  have HLM : Hid (∀ W,Below w.heap.size w W -> Calls Tryz.prog 22 #[.agg #[.int .i64 k,.string nm,.int .i64 n,.slice la ll lc,.slice aa al ac],.int .u8 70] W (LawPost W (· < B) (lawFR x))) := fun W hW => lmean_c x _ B W (ExprC.mono (fun b hb _ => ⟨hb,hW.block b (Nat.lt_of_lt_of_le hb hB)⟩) _ _ h) (Nat.le_trans hB hW.size) ha hl
  have HRC : Hid (∀ W,Below w.heap.size w W -> Calls Tryz.prog 13 #[.agg #[.int .i64 k,.string nm,.int .i64 n,.slice la ll lc,.slice aa al ac]] W fun e w' => e = .returned (.int .i64 (checkE x)) /\ Below W.heap.size W w') := fun W hW => rcheck_c x _ (· < B) W (ExprC.mono (fun b hb _ => ⟨hb,hW.block b (Nat.lt_of_lt_of_le hb hB)⟩) _ _ h) hs he
  clear h ha hl hs he
  go_enter Tryz.func8,Tryz.ntmps8
  go_upto_region 1 with fail
  generalize (w.alloc (.cells #[.int .i64 k,.string nm,.int .i64 n,.slice la ll lc,.slice aa al ac] 25)).alloc (.cells #[.int .i64 0,.int .i64 0,.slice none 0 0,.int .i64 0,.int .i64 0,.slice none 0 0,.int .i64 0,.slice none 0 0,.int .i64 0,.slice none 0 0] 37) = W at *
  have HXR : Hid (W.rangeAt w.heap.size 0 [.int .i64 k,.string nm,.int .i64 n,.slice la ll lc,.slice aa al ac]) := range_of_row (HX.out.at_ (i := 0) rfl)
  have HK : Hid (W.heap[w.heap.size + 1]? = some (.cells #[.int .i64 0,.int .i64 0,.slice none 0 0,.int .i64 0,.int .i64 0,.slice none 0 0,.int .i64 0,.slice none 0 0,.int .i64 0,.slice none 0 0] 37 (0,0))) := HX.out.at_ (i := 1) rfl
  go_wp2_with (refine wpList_load_mid rfl 25 (.tmp 2) rfl w.heap.size 0 rfl [.int .i64 k,.string nm,.int .i64 n,.slice la ll lc,.slice aa al ac] _ HXR.out Tryz.underlying25 rfl exprSize ?_)
  refine (HRC.out W HX.out.below).mono ?_
  rintro e w1 ⟨rfl,hb1⟩
  have HB1 := Lib.hid (HX.out.below.trans (hb1.mono HX.out.below.size))
  have HK1 := Lib.hid ((hb1.block _ (by have := HWL.out;omega)).trans HK.out)
  have HXR1 := Lib.hid (range_keep HXR.out (hb1.block _ (by have := HWL.out;omega)))
  have hw1 : w.heap.size + 2 <= w1.heap.size := by have := HWL.out;have := hb1.size;omega
  have HME : Hid (meaningFR x = if checkE x = 0 then lawFR x else .err (checkE x)) := rfl
  clear hb1 HRC HK HXR
  by_cases hc : checkE x = 0
  . rw [hc]
    have HM2 : Hid (meaningFR x = lawFR x) := by show _ = _;rw [HME.out,if_pos hc]
    clear HME hc
    go_wp2_with (refine wpList_load_mid rfl 25 (.tmp 2) rfl w.heap.size 0 rfl [.int .i64 k,.string nm,.int .i64 n,.slice la ll lc,.slice aa al ac] _ HXR1.out Tryz.underlying25 rfl exprSize ?_)
    refine (HLM.out w1 HB1.out).mono ?_
    generalize lawFR x = r at *
    rintro e w2 ⟨⟨A,c,rfl,hA⟩,hb2⟩
    have HA := Lib.hid hA
    have HK2 := Lib.hid ((hb2.block _ (by omega)).trans HK1.out)
    have HB2 := Lib.hid (HB1.out.trans (hb2.mono HB1.out.size))
    clear hA hb2 HLM
    go_wp2_with (refine wpList_store_row rfl 37 (.tmp 4) (.tmp 16) rfl _ (w.heap.size + 1) 37 #[.int .i64 0,.int .i64 0,.slice none 0 0,.int .i64 0,.int .i64 0,.slice none 0 0,.int .i64 0,.slice none 0 0,.int .i64 0,.slice none 0 0] #[.int .i64 r.p,.int .i64 r.m,.slice A r.mod.length c,.int .i64 0,.int .i64 0,.slice none 0 0,.int .i64 0,.slice none 0 0,.int .i64 0,.slice none 0 0] rfl rfl HK2.out lawvSize rfl (by simp [Value.oneCell']) ?_)
    refine bodyPost_ret (results_row_one (P := Tryz.prog) rfl _ _ (w.heap.size + 1) 37 #[.int .i64 r.p,.int .i64 r.m,.slice A r.mod.length c,.int .i64 0,.int .i64 0,.slice none 0 0,.int .i64 0,.slice none 0 0,.int .i64 0,.slice none 0 0] (0,0) _ _ rfl rfl (setRow_same _ (w.heap.size + 1) _ _ _ HK2.out) Tryz.underlying37 rfl lawvSize) rfl ?_
    rw [HM2.out]
    refine ⟨⟨A,c,rfl,HA.out.mono fun b hb hlt => ⟨hb.imp id (fun h => by omega),setRow_other _ _ _ _ ?_⟩⟩,below_setRow HB2.out (by omega) _⟩
    rcases hb with h | h
    . have h : b < B := h;omega
    . omega
  . have hn0 : ((checkE x : Int) != 0) = true := by simpa using hc
    have HM2 : Hid (meaningFR x = .err (checkE x)) := by show _ = _;rw [HME.out,if_neg hc]
    clear HME hc HLM
    generalize checkE x = ce at *
    go_wp2_with (refine wpList_store_row rfl 37 (.tmp 4) (.tmp 11) rfl _ (w.heap.size + 1) 37 #[.int .i64 0,.int .i64 0,.slice none 0 0,.int .i64 0,.int .i64 0,.slice none 0 0,.int .i64 0,.slice none 0 0,.int .i64 0,.slice none 0 0] #[.int .i64 0,.int .i64 0,.slice none 0 0,.int .i64 0,.int .i64 0,.slice none 0 0,.int .i64 0,.slice none 0 0,.int .i64 0,.slice none 0 0] rfl rfl HK1.out lawvSize rfl (by simp [Value.oneCell']) ?_)
    refine bodyPost_ret (results_row_one (P := Tryz.prog) rfl _ _ (w.heap.size + 1) 37 #[.int .i64 0,.int .i64 0,.slice none 0 0,.int .i64 0,.int .i64 0,.slice none 0 0,.int .i64 0,.slice none 0 0,.int .i64 0,.slice none 0 0] (0,0) _ _ rfl rfl (setRow_same _ (w.heap.size + 1) _ _ _ HK1.out) Tryz.underlying37 rfl lawvSize) rfl ?_
    rw [HM2.out]
    exact ⟨⟨none,0,rfl,fun h => by simp [FR.err] at h⟩,below_setRow HB1.out (by omega) _⟩
end Go.Proofs.YtaddcadapbpkfaaGreatDoor

namespace Go.Proofs.YtaddcadapbpkfaaGreatDoor
open Go.RowKit Pln

def startM (S : Sem) (x : E) (isF : Bool) : Res := if checkE x = 0 then meanM S x isF else .error (checkE x)
def LSs (a w : World) : Prop := Below a.heap.size a w

set_option maxHeartbeats 4000000 in
set_option maxRecDepth 100000 in
theorem start_c (S : Sem) (x : E) (isF : Bool) (cs : List Value) (B : Nat) (w : World) (hsup : SupE S x isF) (h : ExprC w (· < B) x cs) (hB : B <= w.heap.size) (hs : sizeE x <= 1000000000) (he : entE x <= 9223372036854775807) (hp : Pows w) :
    Calls Tryz.prog 21 #[.agg cs.toArray,.bool isF] w (MeanPost w (· < B) (startM S x isF)) := by
  obtain ⟨k,nm,n,la,ll,lc,aa,al,ac,rfl⟩ := h.shape
  have HX := Lib.hid (bx2 w #[.int .i64 k,.string nm,.int .i64 n,.slice la ll lc,.slice aa al ac] #[.int .i64 0,.int .i64 0,.slice none 0 0,.int .i64 0,.int .i64 0,.slice none 0 0,.int .i64 0,.slice none 0 0,.int .i64 0,.slice none 0 0] 25 60)
  have HWL : Hid (((w.alloc (.cells #[.int .i64 k,.string nm,.int .i64 n,.slice la ll lc,.slice aa al ac] 25)).alloc (.cells #[.int .i64 0,.int .i64 0,.slice none 0 0,.int .i64 0,.int .i64 0,.slice none 0 0,.int .i64 0,.slice none 0 0,.int .i64 0,.slice none 0 0] 60)).heap.size = w.heap.size + 2) := by show _ = _;simp
  have HLC : Hid (∀ W,Below w.heap.size w W -> Calls Tryz.prog 23 #[.agg #[.int .i64 k,.string nm,.int .i64 n,.slice la ll lc,.slice aa al ac]] W fun e w' => e = .returned (.int .i64 (checkE x)) /\ Below W.heap.size W w') := fun W hW => check_cL x _ (· < B) W (ExprC.mono (fun b hb _ => ⟨hb,hW.block b (Nat.lt_of_lt_of_le hb hB)⟩) _ _ h) hs he (hp.keep hp.lt hW)
  have HMC : Hid (∀ tb W,Below w.heap.size w W -> Tb W tb (inBs (bas (upN 4))) -> Calls Tryz.prog 32 #[.agg #[.map (some tb)],.agg #[.int .i64 k,.string nm,.int .i64 n,.slice la ll lc,.slice aa al ac],.bool isF] W (MeanPost W (· < B) (meanM S x isF))) := fun tb W hW ht => mean_c S x isF _ tb B W hsup (ExprC.mono (fun b hb _ => ⟨hb,hW.block b (Nat.lt_of_lt_of_le hb hB)⟩) _ _ h) (Nat.le_trans hB hW.size) ht
  clear h hs he hp hsup
  go_enter Tryz.func21,Tryz.ntmps21
  go_upto_region 1 with fail
  generalize (w.alloc (.cells #[.int .i64 k,.string nm,.int .i64 n,.slice la ll lc,.slice aa al ac] 25)).alloc (.cells #[.int .i64 0,.int .i64 0,.slice none 0 0,.int .i64 0,.int .i64 0,.slice none 0 0,.int .i64 0,.slice none 0 0,.int .i64 0,.slice none 0 0] 60) = W at *
  have HXR : Hid (W.rangeAt w.heap.size 0 [.int .i64 k,.string nm,.int .i64 n,.slice la ll lc,.slice aa al ac]) := range_of_row (HX.out.at_ (i := 0) rfl)
  have HK : Hid (W.heap[w.heap.size + 1]? = some (.cells #[.int .i64 0,.int .i64 0,.slice none 0 0,.int .i64 0,.int .i64 0,.slice none 0 0,.int .i64 0,.slice none 0 0,.int .i64 0,.slice none 0 0] 60 (0,0))) := HX.out.at_ (i := 1) rfl
  go_wp2_with (refine wpList_load_mid rfl 25 (.tmp 2) rfl w.heap.size 0 rfl [.int .i64 k,.string nm,.int .i64 n,.slice la ll lc,.slice aa al ac] _ HXR.out Tryz.underlying25 rfl exprSize ?_)
  refine (HLC.out W HX.out.below).mono ?_
  rintro e w1 ⟨rfl,hb1⟩
  have HB1 := Lib.hid (HX.out.below.trans (hb1.mono HX.out.below.size))
  have HK1 := Lib.hid ((hb1.block _ (by have := HWL.out;omega)).trans HK.out)
  have HXR1 := Lib.hid (range_keep HXR.out (hb1.block _ (by have := HWL.out;omega)))
  have hw1 : w.heap.size + 2 <= w1.heap.size := by have := HWL.out;have := hb1.size;omega
  have HME : Hid (startM S x isF = if checkE x = 0 then meanM S x isF else .error (checkE x)) := rfl
  clear hb1 HLC HK HXR
  by_cases hc : checkE x = 0
  . rw [hc]
    have HM2 : Hid (startM S x isF = meanM S x isF) := by show _ = _;rw [HME.out,if_pos hc]
    clear HME hc
    have HRX : Hid (∀ W,LSs w1 W -> W.rangeAt w.heap.size 0 [.int .i64 k,.string nm,.int .i64 n,.slice la ll lc,.slice aa al ac]) := fun W hW => range_keep HXR1.out (Below.block hW _ (by omega))
    have HS0 : Hid (LSs w1 w1.drew) := (Below.refl _ _).drew
    go_upto_region 4 with fail
    refine wp_region_mixf 7 7 (LSs w1) [(0,2),(1,3),(2,0),(1,1),(2,4),(1,5),(1,6)] default (by kernel_rfl) (by kernel_rfl) (fun _ _ d _ _ h => by cases d <;> exact h) HS0.out ?_
    simp only [List.map_cons,List.map_nil,List.getD_cons_zero,List.getD_cons_succ]
    refine mixf_load_mid rfl 25 (.tmp 2) rfl w.heap.size 0 rfl [.int .i64 k,.string nm,.int .i64 n,.slice la ll lc,.slice aa al ac] _ HRX.out Tryz.underlying25 rfl exprSize ?_
    go_simp
    apply mixf_free rfl
    . intro W
      go_simp
      rfl
    go_simp
    apply mixf_call rfl
    . go_simp
      exact ⟨rfl,rfl⟩
    with_reducible refine (table_c _).mono ?_
    rintro e w2 ⟨⟨tb,rfl,htb⟩,hb2⟩
    have HS2 : Hid (LSs w1 w2) := HS0.out.trans (hb2.mono (Below.size HS0.out))
    refine ⟨_,rfl,HS2.out,?_⟩
    go_simp
    apply mixf_free rfl
    . intro W
      go_simp
      rfl
    go_simp
    apply mixf_call rfl
    . go_simp
      exact ⟨rfl,rfl⟩
    have hbw2 : Below w.heap.size w w2 := HB1.out.trans (Below.mono HS2.out HB1.out.size)
    with_reducible refine (HMC.out tb w2 hbw2 htb).mono ?_
    rintro e w3 ⟨⟨cs,k3,rfl,hten,hone,hres⟩,hb3⟩
    have HS3 : Hid (LSs w1 w3) := Below.trans HS2.out (hb3.mono (Below.size HS2.out))
    refine ⟨_,rfl,HS3.out,?_⟩
    go_simp
    iterate 2
      apply mixf_free rfl
      . intro W
        go_simp
        rfl
      go_simp
    refine mixf_nil ?_
    have hs2 : w1.heap.size <= w2.heap.size := Below.size HS2.out
    have HRES : Hid (ResIs w3 (fun b => b < B \/ w2.heap.size <= b) (meanM S x isF) k3 cs) := hres
    have HTEN : Hid (cs.toArray.size = 10) := by show _ = _;simpa using hten
    have HONE : Hid (cs.toArray.all (fun v => v.oneCell') = true) := by show _ = _;simpa using hone
    have hvs : (Tryz.prog.info? 60).map (·.size) = some cs.toArray.size := by rw [HTEN.out];exact valueSize
    have HVS := Lib.hid hvs
    have HB3 := Lib.hid (HB1.out.trans (Below.mono HS3.out HB1.out.size))
    have HK3 := Lib.hid ((Below.block HS3.out _ (by omega)).trans HK1.out)
    clear hbw2 hb2 hb3 hres hten hone hvs htb HS2 HS3 HS0 HRX HXR1 HMC
    show wpList _ _ _ _ _ _
    go_simp
    go_wp2_with (refine wpList_store_row rfl 60 (.tmp 4) (.tmp 18) rfl _ (w.heap.size + 1) 60 #[.int .i64 0,.int .i64 0,.slice none 0 0,.int .i64 0,.int .i64 0,.slice none 0 0,.int .i64 0,.slice none 0 0,.int .i64 0,.slice none 0 0] cs.toArray rfl rfl HK3.out HVS.out HTEN.out.symm HONE.out ?_)
    refine bodyPost_ret (results_row_one (P := Tryz.prog) rfl _ _ (w.heap.size + 1) 60 cs.toArray (0,0) _ _ rfl rfl (setRow_same w3 (w.heap.size + 1) _ _ _ HK3.out) Tryz.underlying60 rfl HVS.out) rfl ?_
    rw [HM2.out]
    exact ⟨⟨cs,k3,rfl,by simpa using HTEN.out,by simpa using HONE.out,resIs_more HRES.out (fun b hb => by
      refine ⟨hb.imp id (fun h => by omega),?_⟩
      rcases hb with h | h <;> omega) _⟩,below_setRow HB3.out (by omega) _⟩
  . have hn0 : ((checkE x : Int) != 0) = true := by simpa using hc
    have HM2 : Hid (startM S x isF = .error (checkE x)) := by show _ = _;rw [HME.out,if_neg hc]
    have HNE := Lib.hid hc
    clear HME hc HMC
    generalize checkE x = ce at *
    go_wp2_with (refine wpList_store_row rfl 60 (.tmp 4) (.tmp 11) rfl _ (w.heap.size + 1) 60 #[.int .i64 0,.int .i64 0,.slice none 0 0,.int .i64 0,.int .i64 0,.slice none 0 0,.int .i64 0,.slice none 0 0,.int .i64 0,.slice none 0 0] #[.int .i64 0,.int .i64 0,.slice none 0 0,.int .i64 0,.int .i64 0,.slice none 0 0,.int .i64 0,.slice none 0 0,.int .i64 0,.slice none 0 0] rfl rfl HK1.out valueSize rfl (by simp [Value.oneCell']) ?_)
    refine bodyPost_ret (results_row_one (P := Tryz.prog) rfl _ _ (w.heap.size + 1) 60 #[.int .i64 0,.int .i64 0,.slice none 0 0,.int .i64 0,.int .i64 0,.slice none 0 0,.int .i64 0,.slice none 0 0,.int .i64 0,.slice none 0 0] (0,0) _ _ rfl rfl (setRow_same _ (w.heap.size + 1) _ _ _ HK1.out) Tryz.underlying60 rfl valueSize) rfl ?_
    rw [HM2.out]
    exact ⟨⟨#[.int .i64 0,.int .i64 0,.slice none 0 0,.int .i64 0,.int .i64 0,.slice none 0 0,.int .i64 0,.slice none 0 0,.int .i64 0,.slice none 0 0].toList,ce,rfl,rfl,one_all rfl,⟨rfl,by have := HNE.out;omega⟩⟩,below_setRow HB1.out (by omega) _⟩
theorem start0 (x : E) : startM S0 x true = if checkE x = 0 then fldRes (lawFR x) else .error (checkE x) := by
  unfold startM
  rw [mean0]
def FieldPost (w : World) (r : Res) (e : Ending) (w' : World) : Prop :=
  (∃ (p m : Int) (mod : List Int) (A : Option Addr) (c : Nat) (k : Int),e = .returned (.tuple #[.agg #[.int .i64 p,.int .i64 m,.slice A mod.length c],.int .i64 k]) /\ IntsAt w' w'.heap.size A mod /\ match r with
    | .error k' => k = k' /\ k ≠ 0 /\ p = 0 /\ m = 0 /\ mod = []
    | .ok (.fld p' m' mod') => k = 0 /\ p = p' /\ m = m' /\ mod = mod'
    | .ok _ => False) /\ Below w.heap.size w w'
theorem start_fld (x : E) : (∃ k,startM S0 x true = .error k /\ k ≠ 0) \/ ∃ p m mod,startM S0 x true = .ok (.fld p m mod) := by
  rw [start0]
  by_cases hc : checkE x = 0
  . rw [if_pos hc]
    unfold fldRes
    by_cases he : (lawFR x).e = 0
    . rw [if_pos he]
      exact .inr ⟨_,_,_,rfl⟩
    . rw [if_neg he]
      exact .inl ⟨_,rfl,he⟩
  . rw [if_neg hc]
    exact .inl ⟨_,rfl,by omega⟩

set_option maxHeartbeats 4000000 in
set_option maxRecDepth 100000 in
theorem Field_c (x : E) (cs : List Value) (B : Nat) (w : World) (hl : ∀ y,y ∈ argsOf x -> y.ls.length <= 1000000) (h : ExprC w (· < B) x cs) (hB : B <= w.heap.size) (hs : sizeE x <= 1000000000) (he : entE x <= 9223372036854775807) (hp : Pows w) :
    Calls Tryz.prog 7 #[.agg cs.toArray] w (FieldPost w (startM S0 x true)) := by
  obtain ⟨k,nm,n,la,ll,lc,aa,al,ac,rfl⟩ := h.shape
  have HX := Lib.hid (bx2 w #[.int .i64 k,.string nm,.int .i64 n,.slice la ll lc,.slice aa al ac] #[.int .i64 0,.int .i64 0,.slice none 0 0] 25 29)
  have HWL : Hid (((w.alloc (.cells #[.int .i64 k,.string nm,.int .i64 n,.slice la ll lc,.slice aa al ac] 25)).alloc (.cells #[.int .i64 0,.int .i64 0,.slice none 0 0] 29)).heap.size = w.heap.size + 2) := by show _ = _;simp
  have HST : Hid (∀ W,Below w.heap.size w W -> Calls Tryz.prog 21 #[.agg #[.int .i64 k,.string nm,.int .i64 n,.slice la ll lc,.slice aa al ac],.bool true] W (MeanPost W (· < B) (startM S0 x true))) := fun W hW => start_c S0 x true _ B W (sup0 x hl) (ExprC.mono (fun b hb _ => ⟨hb,hW.block b (Nat.lt_of_lt_of_le hb hB)⟩) _ _ h) (Nat.le_trans hB hW.size) hs he (hp.keep hp.lt hW)
  clear h hs he hp hl
  go_enter Tryz.func7,Tryz.ntmps7
  go_upto_region 1 with fail
  generalize (w.alloc (.cells #[.int .i64 k,.string nm,.int .i64 n,.slice la ll lc,.slice aa al ac] 25)).alloc (.cells #[.int .i64 0,.int .i64 0,.slice none 0 0] 29) = W at *
  have HXR : Hid (W.rangeAt w.heap.size 0 [.int .i64 k,.string nm,.int .i64 n,.slice la ll lc,.slice aa al ac]) := range_of_row (HX.out.at_ (i := 0) rfl)
  have HK : Hid (W.heap[w.heap.size + 1]? = some (.cells #[.int .i64 0,.int .i64 0,.slice none 0 0] 29 (0,0))) := HX.out.at_ (i := 1) rfl
  go_wp2_with (refine wpList_load_mid rfl 25 (.tmp 1) rfl w.heap.size 0 rfl [.int .i64 k,.string nm,.int .i64 n,.slice la ll lc,.slice aa al ac] _ HXR.out Tryz.underlying25 rfl exprSize ?_)
  refine (HST.out W HX.out.below).mono ?_
  rintro e w1 ⟨⟨cs,k1,rfl,hten,hone,hres⟩,hb1⟩
  have HTEN : Hid (cs.toArray.size = 10) := by show _ = _;simpa using hten
  have HONE : Hid (cs.toArray.all (fun v => v.oneCell') = true) := by show _ = _;simpa using hone
  have hvs : (Tryz.prog.info? 60).map (·.size) = some cs.toArray.size := by rw [HTEN.out];exact valueSize
  have HVS := Lib.hid hvs
  have HRES : Hid (ResIs w1 (fun b => b < B \/ W.heap.size <= b) (startM S0 x true) k1 cs) := hres
  have HB1 := Lib.hid (HX.out.below.trans (hb1.mono HX.out.below.size))
  have HK1 := Lib.hid ((hb1.block _ (by have := HWL.out;omega)).trans HK.out)
  have hw1 : w.heap.size + 2 <= w1.heap.size := by have := HWL.out;have := hb1.size;omega
  clear hb1 hten hone hvs hres HST HXR HK
  rcases start_fld x with ⟨k',hst,hk'⟩ | ⟨p,m,mod,hst⟩
  . have hr := HRES.out
    rw [hst] at hr
    have HSS := Lib.hid hst
    obtain ⟨rfl,hne⟩ := hr
    have HNE := Lib.hid hne
    have hn0 : ((k1 : Int) != 0) = true := by simpa using hne
    have HK2 : Hid ((w1.alloc (.cells cs.toArray 60)).heap[w.heap.size + 1]? = some (.cells #[.int .i64 0,.int .i64 0,.slice none 0 0] 29 (0,0))) := (heap_alloc_old _ _ _ (by omega)).trans HK1.out
    have HB2 : Hid (Below w.heap.size w (w1.alloc (.cells cs.toArray 60))) := HB1.out.alloc (by omega) _
    clear HRES hst hk' hne
    go_wp2_with (first
      | (refine wpList_store_new rfl 60 (.tmp 4) (.tmp 9) rfl w1 _ cs.toArray rfl rfl HVS.out HTEN.out.symm HONE.out ?_)
      | (refine wpList_store_row rfl 29 (.tmp 2) (.tmp 13) rfl _ (w.heap.size + 1) 29 #[.int .i64 0,.int .i64 0,.slice none 0 0] #[.int .i64 0,.int .i64 0,.slice none 0 0] rfl rfl HK2.out fieldSize rfl (by simp [Value.oneCell']) ?_))
    refine bodyPost_ret (results_row_one (P := Tryz.prog) rfl _ _ (w.heap.size + 1) 29 #[.int .i64 0,.int .i64 0,.slice none 0 0] (0,0) _ _ rfl rfl (setRow_same _ (w.heap.size + 1) _ _ _ HK2.out) Tryz.underlying29 rfl fieldSize) rfl ?_
    rw [HSS.out]
    exact ⟨⟨0,0,[],none,0,k1,rfl,fun h => by simp at h,rfl,HNE.out,rfl,rfl,rfl⟩,below_setRow HB2.out (by omega) _⟩
  . have hr := HRES.out
    rw [hst] at hr
    have HSS := Lib.hid hst
    obtain ⟨rfl,A,c,rfl,hA⟩ := hr
    have HA := Lib.hid hA
    have HK2 : Hid ((w1.alloc (.cells #[.int .i64 p,.int .i64 m,.slice A mod.length c,.int .i64 0,.int .i64 0,.slice none 0 0,.int .i64 0,.slice none 0 0,.int .i64 0,.slice none 0 0] 60)).heap[w.heap.size + 1]? = some (.cells #[.int .i64 0,.int .i64 0,.slice none 0 0] 29 (0,0))) := (heap_alloc_old _ _ _ (by omega)).trans HK1.out
    have HB2 : Hid (Below w.heap.size w (w1.alloc (.cells #[.int .i64 p,.int .i64 m,.slice A mod.length c,.int .i64 0,.int .i64 0,.slice none 0 0,.int .i64 0,.slice none 0 0,.int .i64 0,.slice none 0 0] 60))) := HB1.out.alloc (by omega) _
    have HRV : Hid ((w1.alloc (.cells #[.int .i64 p,.int .i64 m,.slice A mod.length c,.int .i64 0,.int .i64 0,.slice none 0 0,.int .i64 0,.slice none 0 0,.int .i64 0,.slice none 0 0] 60)).rangeAt w1.heap.size 0 [.int .i64 p,.int .i64 m,.slice A mod.length c]) := by
      have h1 := range_of_row (heap_alloc_new w1 (.cells #[.int .i64 p,.int .i64 m,.slice A mod.length c,.int .i64 0,.int .i64 0,.slice none 0 0,.int .i64 0,.slice none 0 0,.int .i64 0,.slice none 0 0] 60))
      intro j v hj
      refine h1 j v ?_
      match j,hj with
      | 0,hj => exact hj
      | 1,hj => exact hj
      | 2,hj => exact hj
      | j + 3,hj => simp at hj
    clear HRES hst hA HTEN HONE HVS
    go_wp2_with (first
      | (refine wpList_store_new rfl 60 (.tmp 4) (.tmp 9) rfl w1 _ #[.int .i64 p,.int .i64 m,.slice A mod.length c,.int .i64 0,.int .i64 0,.slice none 0 0,.int .i64 0,.slice none 0 0,.int .i64 0,.slice none 0 0] rfl rfl valueSize rfl (by simp [Value.oneCell']) ?_)
      | (refine wpList_load_mid rfl 29 (.tmp 15) rfl w1.heap.size 0 rfl [.int .i64 p,.int .i64 m,.slice A mod.length c] _ HRV.out Tryz.underlying29 rfl fieldSize ?_)
      | (refine wpList_store_row rfl 29 (.tmp 2) (.tmp 16) rfl _ (w.heap.size + 1) 29 #[.int .i64 0,.int .i64 0,.slice none 0 0] #[.int .i64 p,.int .i64 m,.slice A mod.length c] rfl rfl HK2.out fieldSize rfl (by simp [Value.oneCell']) ?_))
    refine bodyPost_ret (results_row_one (P := Tryz.prog) rfl _ _ (w.heap.size + 1) 29 #[.int .i64 p,.int .i64 m,.slice A mod.length c] (0,0) _ _ rfl rfl (setRow_same _ (w.heap.size + 1) _ _ _ HK2.out) Tryz.underlying29 rfl fieldSize) rfl ?_
    rw [HSS.out]
    refine ⟨⟨p,m,mod,A,c,0,rfl,(HA.out.mono (F' := fun b => b < B \/ w.heap.size + 2 <= b) fun b hb hlt => ⟨hb.imp id (fun h => by have := HWL.out;omega),?_⟩).at_,rfl,rfl,rfl,rfl⟩,below_setRow HB2.out (by omega) _⟩
    refine (setRow_other _ _ _ _ ?_).trans (heap_alloc_old _ _ _ hlt)
    rcases hb with h | h
    . have h : b < B := h;omega
    . have := HWL.out;omega
end Go.Proofs.YtaddcadapbpkfaaGreatDoor

