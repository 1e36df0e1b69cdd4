/-
  LangParses, for every input: the parser and the reference's parser answer the same expression, error and place. The card: the listed package variables are tied to the program's text.
-/
import Derived.Test.YtbjagceopgofiaaDoorCards
import Derived.Test.YtbjagceopgofiaaDoorTie
import Derived.Test.YtbjagceopgofiaaDoorGrow
import Derived.ProofKit
import Derived.OpenShut
import Derived.Deep.DeepHandedRow
import Derived.Lib.LaidTab
import Derived.Test.YtbjagceopgofiaaDoorReadD
import Derived.Test.YtbjagceopgofiaaDoorReadH
import Derived.Test.YtbjagceopgofiaaDoorParse
import Derived.Test.YtbjagceopgofiaaDoorLawTok
import Derived.Test.YtbjagceopgofiaaDoorRefE
import Derived.Test.YtbjagceopgofiaaDoorAlive
import Derived.Test.YtbjagceopgofiaaDoorPlainC
namespace Go.Proofs.YtbjagceopgofiaaDoor
open Go.ChangeShapes Go.WideShapes Go.ChangeAt Go.RowKit

section
variable {H : Type} {enc : TypeId × Value → H} {P : Program}
/-- The row's last step where of the world behind the call 'Below' alone is known. -/
theorem post_of_below {f : Func} {s : ChangeSpec} {apart fresh handsOn again : Bool} {W W' : World} {args : Array Value} {v : Value} {ds gs : List (DataW H)} {before pa pv : List MemPlace}
    (hW : DataW.Whole enc P f.params.toList s.vars apart W args.toList ds gs before)
    (hres : ∀ (b : Nat) (sp : Nat → Bool) (hd : Bool), DataW.TrodAll enc P W' b sp hd f.resultTypes.toList (v.resultList f.resultTypes.size) (s.fn H (ds ++ gs)).results [])
    (hargs : ∀ sp : Nat → Bool, (∀ p ∈ before, sp p.block = true) → DataW.TrodAll enc P W' 0 sp true f.params.toList args.toList (s.fn H (ds ++ gs)).args pa)
    (hvars : ∀ sp : Nat → Bool, (∀ p ∈ before, sp p.block = true) → DataW.TrodVars enc P W' sp s.vars (s.fn H (ds ++ gs)).vars pv)
    (hps : before = pa ++ pv) (hb : Below W.heap.size W W')
    (hok : ∀ (j : Nat) (t : TypeId) (r : Value), f.resultTypes[j]? = some t → (v.resultList f.resultTypes.size)[j]? = some r → Value.okWide P W' .any 0 t r) :
    s.post enc P f apart fresh handsOn again W args v W' := by
  have hlt : ∀ p ∈ before, p.block < W.heap.size := fun p hp => hW.lt p hp
  have hold : ∀ p ∈ before, (fun b => decide (b < W.heap.size)) p.block = true := fun p hp => by simpa using hlt p hp
  refine ⟨ds, gs, before, [], pa, pv, hW, hres _ _ _, hargs _ hold, hvars _ hold, World.keptBut_mono (fun p hp => ⟨hp, ?_⟩) (hb.frame (· ∈ before)), fun _ => ?_⟩
  · rw [hps, List.mem_append] at hp
    exact Or.inr hp
  · obtain ⟨_, _, _, _, _, hz, hn⟩ := hW
    refine ⟨hok, _, _, ([] ++ pa) ++ pv, ⟨[] ++ pa, pv, trodAll_append (hargs _ (fun _ _ => rfl)) (hres _ _ _), hvars _ (fun _ _ => rfl), rfl, ?_, ?_⟩, ?_⟩
    · intro b off hp
      have hin : MemPlace.cell b off ∈ before := by rw [hps]; simpa using hp
      rw [hb.frozen (hlt _ hin)]
      exact hz b off hin
    · intro ha
      have := hn ha
      rw [hps] at this
      simpa using this
    · intro p hp _
      rw [hps]
      simpa using hp
end

theorem own : ownKnob Tryd.prog.godebug = none := by kernel_rfl
theorem laidOut : laidOutB Tryd.prog = true := by kernel_rfl
theorem gPowsType : (Tryd.prog.globals[1]?).map (·.type) = some 103 := by kernel_rfl
theorem cellsU64 : Tryd.prog.cellsOf 96 = 1 := by kernel_rfl
theorem cellsTab : Tryd.prog.cellsOf 103 = 20 := by kernel_rfl
theorem laidPows : (Rows.laid_internal_strconv_uint64pow10 : DataW Unit) = Lib.tabData .u64 Lib.pow10Tab := by kernel_rfl
abbrev theLaid : List (String × DataW Unit) := [("math/bits.deBruijn32tab", Rows.laid_math_bits_deBruijn32tab), ("math/bits.deBruijn64tab", Rows.laid_math_bits_deBruijn64tab), ("internal/strconv.uint64pow10", Rows.laid_internal_strconv_uint64pow10)]
theorem pows_of {W : World} (h : laidMet Tryd.prog theLaid W) : Pows W := by
  have h1 : laidMet Tryd.prog [("internal/strconv.uint64pow10", Lib.tabData .u64 Lib.pow10Tab)] W := by
    have := laidMet.filter (fun x => x.1 == "internal/strconv.uint64pow10") h
    rw [← laidPows]
    exact this
  exact Lib.tabIs_of_head (rest := []) gPows gPowsType Tryd.underlying103 Tryd.underlying96 cellsU64 cellsTab h1
/-! ### The witness -/
def cellsOfDatum : DataW Unit → Array Value
  | .agg ps => (ps.map fun | .lit (.int k n) => Value.int k n | .lit (.string l) => Value.string ⟨l.toArray⟩ | _ => Value.nilFunc).toArray
  | _ => #[]
def setVar (g : Nat) (d : DataW Unit) (w : World) : World :=
  { w with heap := w.heap.modify g fun
      | .cells _ t frozen => .cells (cellsOfDatum d) t frozen
      | o => o }
noncomputable def laidWorld (os : Os) : World :=
  setVar 1 Rows.laid_internal_strconv_uint64pow10 (setVar 2 Rows.laid_math_bits_deBruijn32tab (setVar 3 Rows.laid_math_bits_deBruijn64tab (World.holding Tryd.prog os ⟨#[], #[], []⟩)))
#print axioms pows_of
end Go.Proofs.YtbjagceopgofiaaDoor
namespace Go.Proofs.YtbjagceopgofiaaDoor
open Go.RowKit

theorem isT_three {ts : List Tok} {i : Nat} {c : UInt8} (h : isT ts i c = true) : kindT ts i = 3 := by
  have hi := isT_lt h
  rw [isT_at c hi] at h
  unfold kindT
  rw [List.getElem?_eq_getElem hi]
  simpa using (of_decide_eq_true h).1
theorem rexpr_all {A : Option Addr} {c : Nat} {ts : List Tok} {en : Nat} (hl : ts.length ≤ 65536) (hk : ∀ i, kindT ts i ≤ 3) : ∀ (N f d i nd : Nat) (w : World) (r : Except (Nat × Nat) (E × Nat × Nat)), f ≤ N → d ≤ 33 → i ≤ ts.length → nd ≤ 1024 → TA w A ts → exprM ts en f d i nd = some r →
    Calls Tryd.prog 30 #[.agg (rdV A c ts.length en i nd 0 0), .int .i64 d] w (rexprPost w A c ts en r) := by
  intro N
  induction N with
  | zero =>
    intro f d i nd w r hf hd hi hn hp hr
    obtain rfl : f = 0 := by omega
    unfold exprM at hr
    cases hr
  | succ N ih =>
    intro f d i nd w r hf hd hi hn hp hr
    cases f with
    | zero => unfold exprM at hr; cases hr
    | succ f =>
      have hki := hk i
      unfold exprM at hr
      split at hr
      · rename_i h
        rw [← Option.some.inj hr]
        exact rexpr_syntax d w hp hl hi hd hn (by omega) h.2.2
      · rename_i h
        have hk3 : kindT ts i = 3 → isT ts i 91 = true := fun h3 => by
          cases h91 : isT ts i 91
          · exact absurd ⟨by omega, by omega, h91⟩ h
          · rfl
        have hk0 : kindT ts i ≠ 0 := fun h0 => by
          cases h91 : isT ts i 91
          · exact absurd ⟨by omega, by omega, h91⟩ h
          · have := isT_three h91; omega
        split at hr
        · rename_i hb
          rw [← Option.some.inj hr]
          exact rexpr_big d w hp hl hi hd hn (by omega) hk3 hb
        · rename_i hb
          split at hr
          · rename_i h3
            have h33 := isT_three h3
            split at hr
            · rename_i h93
              rw [← Option.some.inj hr]
              exact rexpr_list_ok d w hp hl hi hd hn h33 h3 hb f [] (i + 2) (by unfold listTop; rw [if_pos h93])
            · rename_i h93
              have ht : listTop ts en f (i + 1) = listM ts en f (i + 1) [] := by unfold listTop; rw [if_neg h93]
              match hlm : listM ts en f (i + 1) [] with
              | none => rw [hlm] at hr; cases hr
              | some (.error e) => rw [hlm] at hr; rw [← Option.some.inj hr]; exact rexpr_list_err d w hp hl hi hd hn h33 h3 hb f e.1 e.2 (by rw [ht, hlm])
              | some (.ok (l, j)) => rw [hlm] at hr; rw [← Option.some.inj hr]; exact rexpr_list_ok d w hp hl hi hd hn h33 h3 hb f l j (by rw [ht, hlm])
          · rename_i h3
            have h3' : kindT ts i ≠ 3 := fun e => h3 (hk3 e)
            split at hr
            · rename_i h2
              rw [← Option.some.inj hr]
              exact rexpr_num d w hp hl hi hd hn h2 hb
            · rename_i h2
              have h1 : kindT ts i = 1 := by omega
              split at hr
              · rename_i h40
                rw [← Option.some.inj hr]
                exact rexpr_name d w hp hl hi hd hn h1 hb h40
              · rename_i h40
                have h40' : isT ts (i + 1) 40 = true := by simpa using h40
                have hil := isT_lt h40'
                have hargs : ∀ r0, argsM ts en f d (i + 2) (nd + 1) [] = some r0 → ∀ w', TA w' A ts → Calls Tryd.prog 60 #[.agg (rdV A c ts.length en (i + 2 : Nat) (nd + 1 : Nat) 0 0), .int .i64 ((d : Int) + 1)] w' (rargsPost w' A c ts en r0) :=
                  fun r0 h0 w' hp' => rargs_c (i := i + 2) (nd := nd + 1) d w' hp' hl (by omega) (by omega) (by omega) f (fun f' d' i' nd' w'' r' h1 h2 h3 h4 h5 h6 => ih f' d' i' nd' w'' r' (by omega) h2 h3 h4 h5 h6) r0 h0
                match hlm : argsM ts en f d (i + 2) (nd + 1) [] with
                | none => rw [hlm] at hr; cases hr
                | some (.error e) => rw [hlm] at hr; rw [← Option.some.inj hr]; exact rexpr_call_err d w hp hl hi hd hn h1 hb h40' e.1 e.2 (hargs _ hlm)
                | some (.ok (xs, j, nd')) => rw [hlm] at hr; rw [← Option.some.inj hr]; exact rexpr_call_ok d w hp hl hi hd hn h1 hb h40' xs j nd' (hargs _ hlm)
/-- expr, by its model. -/
theorem rexpr_c {A : Option Addr} {c : Nat} {ts : List Tok} {en : Nat} (hl : ts.length ≤ 65536) (hk : ∀ i, kindT ts i ≤ 3) (f : Nat) (w : World) (h : TA w A ts) (r : Except (Nat × Nat) (E × Nat × Nat)) (hr : exprM ts en f 1 0 0 = some r) :
    Calls Tryd.prog 30 #[.agg (rdV A c ts.length en 0 0 0 0), .int .i64 1] w (rexprPost w A c ts en r) := rexpr_all hl hk f f 1 0 0 w r (Nat.le_refl _) (by omega) (Nat.zero_le _) (by omega) h hr
#print axioms rexpr_c

theorem results_row_two {P : Program} {fn : Func} {p q r : Tmp} {ty : TypeId} (h : fn.results = #[.cell p ty, .tmp q, .tmp r]) (tmps : Array Value) (w : World) (g : Nat) (t : TypeId) (cs : Array Value) (fr : Nat × Nat) (d : TypeDesc) (u v : Value)
    (hp : tmps.getD p undef = .pointer (some ⟨g, 0, none⟩)) (hq : tmps.getD q undef = u) (hr : tmps.getD r undef = v) (hg : w.heap[g]? = some (.cells cs t fr))
    (hu : P.underlying ty = some d) (hd : (match d with | .struct _ | .array _ _ => true | _ => false) = true) (hi : (P.info? ty).map (·.size) = some cs.size) :
    (results fn tmps).run P w = .ok (.tuple #[.agg cs, u, v]) w := by
  have hp' : tmps[p]?.getD undef = .pointer (some ⟨g, 0, none⟩) := by simpa using hp
  have hq' : tmps[q]?.getD undef = u := by simpa using hq
  have hr' : tmps[r]?.getD undef = v := by simpa using hr
  simp [results, h, hp', hq', hr', asAddr, run_loadVar_row w g t ty cs fr d hg hu hd hi]
theorem kind_three {l : List UInt8} {ts : List Tok} (h : tokensM l = .ok ts) (i : Nat) : kindT ts i ≤ 3 := by
  unfold kindT
  cases hi : ts[i]? with
  | none => simp
  | some t =>
    obtain ⟨_, h1 | h1 | h1⟩ := tokensM_ok h t (List.mem_of_getElem? hi)
    · simp [h1.1]
    · simp [h1.1]
    · simp [h1.1]
set_option maxHeartbeats 8000000 in
set_option maxRecDepth 100000 in
theorem rparse_scan (s : ByteArray) (w : World) (er p : Nat) (hR : tokensM s.data.toList = .error (er, p)) : Calls Tryd.prog 14 #[.string s] w (parsePost w (.error (er, p))) := by
  have HR := Lib.hid hR
  have her : (((er : Nat) : Int) != 0) = true := by have := (tokensM_err hR).1; simp; omega
  clear hR
  go_enter Tryd.func14, Tryd.ntmps14
  go_wp2_with fail
  refine (rtokens_c s _).mono ?_
  intro x w1 hp
  rw [HR.out] at hp
  obtain ⟨rfl, hb⟩ := hp
  have H0 : Hid (w1.heap[w.heap.size]? = some (.cells zeroE 26 (0, 0))) := (hb.block _ (by simp)).trans (heap_alloc_new w _)
  have HB : Hid (Below w.heap.size w w1) := ((Below.refl _ _).alloc (Nat.le_refl _) _).trans (hb.mono (by simp))
  clear hb
  go_wp2_with (refine wpList_store_row rfl 26 (.tmp 2) (.tmp 18) rfl w.heap.size zeroE rfl rfl 26 _ H0.out exprSize rfl (by simp [zeroE, Value.oneCell']) ?_)
  refine bodyPost_ret (results_row_two (P := Tryd.prog) Tryd.results14 _ _ w.heap.size 26 zeroE (0, 0) _ (.int .i64 er) (.int .i64 p) rfl rfl rfl (setRow_heap _ _ _ _ _ _ H0.out) Tryd.underlying26 rfl exprSize) rfl ?_
  exact ⟨rfl, below_setRow HB.out (Nat.le_refl _) _⟩
set_option maxHeartbeats 8000000 in
set_option maxRecDepth 100000 in
theorem rparse_err (s : ByteArray) (w : World) (ts : List Tok) (er p : Nat) (hR : tokensM s.data.toList = .ok ts) (hX : exprM ts s.size (2 * ts.length + 4) 1 0 0 = some (.error (er, p))) : Calls Tryd.prog 14 #[.string s] w (parsePost w (.error (er, p))) := by
  have HR := Lib.hid hR
  obtain ⟨hl1, hl2⟩ := tokensM_len hR
  rw [len_data] at hl1 hl2
  have HC := Lib.hid (fun A c w1 h => rexpr_c (A := A) (c := c) (by omega) (kind_three hR) _ w1 h _ hX)
  have her : (((er : Nat) : Int) == 0) = false := by have := (rboth_err _).1 _ _ _ _ _ hX; simp; omega
  have her2 : (((er : Nat) : Int) != 0) = true := by have := (rboth_err _).1 _ _ _ _ _ hX; simp; omega
  clear hR hX
  go_enter Tryd.func14, Tryd.ntmps14
  go_wp2_with fail
  refine (rtokens_c s _).mono ?_
  intro x w1 hp
  rw [HR.out] at hp
  obtain ⟨v, rfl, ho, hb⟩ := hp
  obtain ⟨A, c, rfl, hta⟩ := ho.at_
  have HTA : Hid (TA w1 A ts) := hta
  have H0 : Hid (w1.heap[w.heap.size]? = some (.cells zeroE 26 (0, 0))) := (hb.block _ (by simp)).trans (heap_alloc_new w _)
  have HB : Hid (Below w.heap.size w w1) := ((Below.refl _ _).alloc (Nat.le_refl _) _).trans (hb.mono (by simp))
  clear hb ho hta
  go_wp2_with fail
  refine (HC.out A c w1 HTA.out).mono ?_
  rintro e w2 ⟨k, nm, n, la, ll, lc, aa, al, ac, i', nd', rfl, hb⟩
  go_upto_region 5 with (first
    | (refine wpList_store_row rfl 26 (.tmp 8) (.tmp 27) rfl w2.heap.size #[.int .i64 k, .string nm, .int .i64 n, .slice la ll lc, .slice aa al ac] rfl rfl 26 _ (heap_alloc2_old w2 _ _) exprSize rfl (by simp [Value.oneCell']) ?_)
    | (refine wpList_store_row rfl RdT (.tmp 9) (.tmp 28) rfl (w2.heap.size + 1) (rdV A c ts.length s.size (i' : Nat) (nd' : Nat) (er : Nat) (p : Nat)) rfl rfl RdT _ ((setRow_other _ _ _ _ (by omega)).trans (heap_alloc2_new w2 _ _)) rdSize rfl (by simp [Value.oneCell']) ?_))
  change Code.wp _ _ _ _ (midW w2 #[.int .i64 k, .string nm, .int .i64 n, .slice la ll lc, .slice aa al ac] (rdV A c ts.length s.size (i' : Nat) (nd' : Nat) (er : Nat) (p : Nat)))
  obtain ⟨m1, m2, m3⟩ := mid_facts w2 #[.int .i64 k, .string nm, .int .i64 n, .slice la ll lc, .slice aa al ac] (rdV A c ts.length s.size (i' : Nat) (nd' : Nat) (er : Nat) (p : Nat))
  have M1 := Lib.hid m1
  have M2 := Lib.hid m2
  have M3 := Lib.hid m3
  clear m1 m2 m3
  generalize midW w2 #[.int .i64 k, .string nm, .int .i64 n, .slice la ll lc, .slice aa al ac] (rdV A c ts.length s.size (i' : Nat) (nd' : Nat) (er : Nat) (p : Nat)) = w4 at *
  have hz2 : w.heap.size < w2.heap.size := Nat.lt_of_lt_of_le (Array.getElem?_eq_some_iff.1 H0.out).1 hb.size
  have HB4 := Lib.hid ((HB.out.trans (hb.mono HB.out.size)).trans (M3.out.mono (Nat.le_of_lt hz2)))
  have H4 := Lib.hid ((M3.out.block _ hz2).trans ((hb.block _ (Array.getElem?_eq_some_iff.1 H0.out).1).trans H0.out))
  obtain ⟨c0, c1, c2, c3, c4, c5⟩ := cells6 M2.out

  clear hb
  go_upto_region 8 with fail
  go_simp
  clear c0 c1 c2 c3 c4 c5
  refine wp_region_two_tail 7 5 (by omega) (SBel w4) (SZ w4 w.heap.size zeroE) (by kernel_rfl) (by kernel_rfl) ((Below.refl _ _).drew) ?_
  simp only [List.take_succ_cons, List.take_zero, List.drop_succ_cons, List.drop_zero]
  have HNE : Hid (w2.heap.size + 1 ≠ w.heap.size) := by show _ ≠ _; omega
  repeat (first
    | (refine two_store_row rfl 26 (.tmp 2) (.tmp 44) rfl w4 w.heap.size zeroE rfl rfl 26 _ H4.out exprSize rfl (by simp [zeroE, Value.oneCell']) ?_
       go_simp)
    | (apply two_val (by omega) rfl
       · intro W' hS
         have e4 := sz_cell hS (cell_of_row _ _ 4 _ _ _ M2.out) HNE.out
         have e5 := sz_cell hS (cell_of_row _ _ 5 _ _ _ M2.out) HNE.out
         go_simp
         try rfl
       go_simp))
  refine wpKeepT_nil ?_
  rintro w7 ⟨w6, hS6, rfl⟩
  have H6 := Lib.hid ((Below.block hS6 _ (Array.getElem?_eq_some_iff.1 H4.out).1).trans H4.out)
  have HB6 := Lib.hid (HB4.out.trans (Below.mono hS6 HB4.out.size))
  clear hS6
  go_wp2_with fail
  refine bodyPost_ret (results_row_two (P := Tryd.prog) Tryd.results14 _ _ w.heap.size 26 zeroE (0, 0) _ (.int .i64 (er : Nat)) (.int .i64 (p : Nat)) rfl rfl rfl (setRow_heap _ _ _ _ _ _ H6.out) Tryd.underlying26 rfl exprSize) rfl ?_
  exact ⟨rfl, below_setRow HB6.out (Nat.le_refl _) _⟩

set_option maxHeartbeats 8000000 in
set_option maxRecDepth 100000 in
theorem rparse_tail (s : ByteArray) (w : World) (ts : List Tok) (y : E) (j nd : Nat) (hR : tokensM s.data.toList = .ok ts) (hX : exprM ts s.size (2 * ts.length + 4) 1 0 0 = some (.ok (y, j, nd))) (hj : j < ts.length) : Calls Tryd.prog 14 #[.string s] w (parsePost w (.error (14, atT ts s.size j))) := by
  have HR := Lib.hid hR
  obtain ⟨hl1, hl2⟩ := tokensM_len hR
  rw [len_data] at hl1 hl2
  have HC := Lib.hid (fun A c w1 h => rexpr_c (A := A) (c := c) (by omega) (kind_three hR) _ w1 h _ hX)
  have hjI : (j : Int) < (ts.length : Int) := by omega
  clear hR hX
  go_enter Tryd.func14, Tryd.ntmps14
  go_wp2_with fail
  refine (rtokens_c s _).mono ?_
  intro x w1 hp
  rw [HR.out] at hp
  obtain ⟨v, rfl, ho, hb⟩ := hp
  obtain ⟨A, c, rfl, hta⟩ := ho.at_
  have HTA : Hid (TA w1 A ts) := hta
  have H0 : Hid (w1.heap[w.heap.size]? = some (.cells zeroE 26 (0, 0))) := (hb.block _ (by simp)).trans (heap_alloc_new w _)
  have HB : Hid (Below w.heap.size w w1) := ((Below.refl _ _).alloc (Nat.le_refl _) _).trans (hb.mono (by simp))
  clear hb ho hta
  go_wp2_with fail
  refine (HC.out A c w1 HTA.out).mono ?_
  intro e w2 hpost
  obtain ⟨k, nm, n, la, ll, lc, aa, al, ac, rfl, hx1, hb⟩ := fresh_r hpost
  clear hpost
  go_upto_region 5 with (first
    | (refine wpList_store_row rfl 26 (.tmp 8) (.tmp 27) rfl w2.heap.size #[.int .i64 k, .string nm, .int .i64 n, .slice la ll lc, .slice aa al ac] rfl rfl 26 _ (heap_alloc2_old w2 _ _) exprSize rfl (by simp [Value.oneCell']) ?_)
    | (refine wpList_store_row rfl RdT (.tmp 9) (.tmp 28) rfl (w2.heap.size + 1) (rdV A c ts.length s.size (j : Nat) (nd : Nat) 0 0) rfl rfl RdT _ ((setRow_other _ _ _ _ (by omega)).trans (heap_alloc2_new w2 _ _)) rdSize rfl (by simp [Value.oneCell']) ?_))
  change Code.wp _ _ _ _ (midW w2 #[.int .i64 k, .string nm, .int .i64 n, .slice la ll lc, .slice aa al ac] (rdV A c ts.length s.size (j : Nat) (nd : Nat) 0 0))
  obtain ⟨m1, m2, m3⟩ := mid_facts w2 #[.int .i64 k, .string nm, .int .i64 n, .slice la ll lc, .slice aa al ac] (rdV A c ts.length s.size (j : Nat) (nd : Nat) 0 0)
  have M1 := Lib.hid m1
  have M2 := Lib.hid m2
  have M3 := Lib.hid m3
  clear m1 m2 m3
  generalize midW w2 #[.int .i64 k, .string nm, .int .i64 n, .slice la ll lc, .slice aa al ac] (rdV A c ts.length s.size (j : Nat) (nd : Nat) 0 0) = w4 at *
  have hz2 : w.heap.size < w2.heap.size := Nat.lt_of_lt_of_le (Array.getElem?_eq_some_iff.1 H0.out).1 hb.size
  have HB4 := Lib.hid ((HB.out.trans (hb.mono HB.out.size)).trans (M3.out.mono (Nat.le_of_lt hz2)))
  have H4 := Lib.hid ((M3.out.block _ hz2).trans ((hb.block _ (Array.getElem?_eq_some_iff.1 H0.out).1).trans H0.out))
  obtain ⟨c0, c1, c2, c3, c4, c5⟩ := cells6 M2.out

  have HTA4 := Lib.hid ((HTA.out.grow hb).grow M3.out)
  clear hb hx1
  go_wp2_with (refine wpList_load_mid rfl RdT (.tmp 9) rfl (w2.heap.size + 1) 0 rfl [.slice A ts.length c, .int .i64 s.size, .int .i64 j, .int .i64 nd, .int .i64 0, .int .i64 0] _ (range_of_row5 (cs := [.slice A ts.length c, .int .i64 s.size, .int .i64 j, .int .i64 nd, .int .i64 0, .int .i64 0]) M2.out) Tryd.underlying55 rfl rdSize ?_)
  refine (rfail_c (i := j) 14 w4 HTA4.out (by omega) (by omega)).mono ?_
  rintro e w5 ⟨rfl, hb5⟩
  have N2 := Lib.hid ((hb5.block _ (Array.getElem?_eq_some_iff.1 M2.out).1).trans M2.out)
  have N0 := Lib.hid ((hb5.block _ (Array.getElem?_eq_some_iff.1 H4.out).1).trans H4.out)
  have NB := Lib.hid (HB4.out.trans (hb5.mono HB4.out.size))
  clear hb5 M2 H4 HB4 c0 c1 c2 c3 c4 c5 M1 M3
  go_upto_region 7 with (refine wpList_store_row rfl RdT (.tmp 9) (.tmp 40) rfl (w2.heap.size + 1) (rdV A c ts.length s.size j nd 14 (atT ts s.size j)) rfl rfl RdT _ N2.out rdSize rfl (by simp [Value.oneCell']) ?_)
  go_simp
  have O2 : Hid ((w5.setRow (w2.heap.size + 1) (rdV A c ts.length s.size j nd 14 (atT ts s.size j))).heap[w2.heap.size + 1]? = some (.cells (rdV A c ts.length s.size j nd 14 (atT ts s.size j)) RdT (0, 0))) := setRow_heap _ _ _ _ _ _ N2.out
  have O0 := Lib.hid ((setRow_other w5 (w2.heap.size + 1) w.heap.size (rdV A c ts.length s.size j nd 14 (atT ts s.size j)) (by omega)).trans N0.out)
  have OB := Lib.hid (below_setRow NB.out (g := w2.heap.size + 1) (by omega) (rdV A c ts.length s.size j nd 14 (atT ts s.size j)))
  generalize w5.setRow (w2.heap.size + 1) (rdV A c ts.length s.size j nd 14 (atT ts s.size j)) = w6 at *
  obtain ⟨c0, c1, c2, c3, c4, c5⟩ := cells6 O2.out
  go_upto_region 8 with fail
  go_simp
  clear c0 c1 c2 c3 c4 c5
  refine wp_region_two_tail 7 5 (by omega) (SBel w6) (SZ w6 w.heap.size zeroE) (by kernel_rfl) (by kernel_rfl) ((Below.refl _ _).drew) ?_
  simp only [List.take_succ_cons, List.take_zero, List.drop_succ_cons, List.drop_zero]
  have HNE : Hid (w2.heap.size + 1 ≠ w.heap.size) := by show _ ≠ _; omega
  repeat (first
    | (refine two_store_row rfl 26 (.tmp 2) (.tmp 44) rfl w6 w.heap.size zeroE rfl rfl 26 _ O0.out exprSize rfl (by simp [zeroE, Value.oneCell']) ?_
       go_simp)
    | (apply two_val (by omega) rfl
       · intro W' hS
         have e4 := sz_cell hS (cell_of_row _ _ 4 _ _ _ O2.out) HNE.out
         have e5 := sz_cell hS (cell_of_row _ _ 5 _ _ _ O2.out) HNE.out
         go_simp
         try rfl
       go_simp))
  refine wpKeepT_nil ?_
  rintro w7 ⟨w8, hS6, rfl⟩
  have H6 := Lib.hid ((Below.block hS6 _ (Array.getElem?_eq_some_iff.1 O0.out).1).trans O0.out)
  have HB6 := Lib.hid (OB.out.trans (Below.mono hS6 OB.out.size))
  clear hS6
  go_wp2_with fail
  refine bodyPost_ret (results_row_two (P := Tryd.prog) Tryd.results14 _ _ w.heap.size 26 zeroE (0, 0) _ (.int .i64 14) (.int .i64 (atT ts s.size j : Nat)) rfl rfl rfl (setRow_heap _ _ _ _ _ _ H6.out) Tryd.underlying26 rfl exprSize) rfl ?_
  exact ⟨rfl, below_setRow HB6.out (Nat.le_refl _) _⟩

set_option maxHeartbeats 8000000 in
set_option maxRecDepth 100000 in
theorem rparse_ok (s : ByteArray) (w : World) (ts : List Tok) (y : E) (j nd : Nat) (hR : tokensM s.data.toList = .ok ts) (hX : exprM ts s.size (2 * ts.length + 4) 1 0 0 = some (.ok (y, j, nd))) (hj : ¬ j < ts.length) : Calls Tryd.prog 14 #[.string s] w (parsePost w (.ok y)) := by
  have HR := Lib.hid hR
  obtain ⟨hl1, hl2⟩ := tokensM_len hR
  rw [len_data] at hl1 hl2
  have HC := Lib.hid (fun A c w1 h => rexpr_c (A := A) (c := c) (by omega) (kind_three hR) _ w1 h _ hX)
  have hjI : ¬ (j : Int) < (ts.length : Int) := by omega
  clear hR hX
  go_enter Tryd.func14, Tryd.ntmps14
  go_wp2_with fail
  refine (rtokens_c s _).mono ?_
  intro x w1 hp
  rw [HR.out] at hp
  obtain ⟨v, rfl, ho, hb⟩ := hp
  obtain ⟨A, c, rfl, hta⟩ := ho.at_
  have HTA : Hid (TA w1 A ts) := hta
  have H0 : Hid (w1.heap[w.heap.size]? = some (.cells zeroE 26 (0, 0))) := (hb.block _ (by simp)).trans (heap_alloc_new w _)
  have HB : Hid (Below w.heap.size w w1) := ((Below.refl _ _).alloc (Nat.le_refl _) _).trans (hb.mono (by simp))
  clear hb ho hta
  go_wp2_with fail
  refine (HC.out A c w1 HTA.out).mono ?_
  intro e w2 hpost
  obtain ⟨k, nm, n, la, ll, lc, aa, al, ac, rfl, hx1, hb⟩ := fresh_r hpost
  clear hpost
  go_upto_region 5 with (first
    | (refine wpList_store_row rfl 26 (.tmp 8) (.tmp 27) rfl w2.heap.size #[.int .i64 k, .string nm, .int .i64 n, .slice la ll lc, .slice aa al ac] rfl rfl 26 _ (heap_alloc2_old w2 _ _) exprSize rfl (by simp [Value.oneCell']) ?_)
    | (refine wpList_store_row rfl RdT (.tmp 9) (.tmp 28) rfl (w2.heap.size + 1) (rdV A c ts.length s.size (j : Nat) (nd : Nat) 0 0) rfl rfl RdT _ ((setRow_other _ _ _ _ (by omega)).trans (heap_alloc2_new w2 _ _)) rdSize rfl (by simp [Value.oneCell']) ?_))
  change Code.wp _ _ _ _ (midW w2 #[.int .i64 k, .string nm, .int .i64 n, .slice la ll lc, .slice aa al ac] (rdV A c ts.length s.size (j : Nat) (nd : Nat) 0 0))
  obtain ⟨m1, m2, m3⟩ := mid_facts w2 #[.int .i64 k, .string nm, .int .i64 n, .slice la ll lc, .slice aa al ac] (rdV A c ts.length s.size (j : Nat) (nd : Nat) 0 0)
  have M1 := Lib.hid m1
  have M2 := Lib.hid m2
  have M3 := Lib.hid m3
  clear m1 m2 m3
  generalize midW w2 #[.int .i64 k, .string nm, .int .i64 n, .slice la ll lc, .slice aa al ac] (rdV A c ts.length s.size (j : Nat) (nd : Nat) 0 0) = w4 at *
  have hz2 : w.heap.size < w2.heap.size := Nat.lt_of_lt_of_le (Array.getElem?_eq_some_iff.1 H0.out).1 hb.size
  have HB4 := Lib.hid ((HB.out.trans (hb.mono HB.out.size)).trans (M3.out.mono (Nat.le_of_lt hz2)))
  have H4 := Lib.hid ((M3.out.block _ hz2).trans ((hb.block _ (Array.getElem?_eq_some_iff.1 H0.out).1).trans H0.out))
  obtain ⟨c0, c1, c2, c3, c4, c5⟩ := cells6 M2.out

  have HX : Hid (ExprC w4 (fun b => w1.heap.size ≤ b) y [.int .i64 k, .string nm, .int .i64 n, .slice la ll lc, .slice aa al ac]) := ExprC.mono (fun b hb hbl => ⟨hb, M3.out.block b hbl⟩) y _ hx1
  have hz1 : w.heap.size < w1.heap.size := (Array.getElem?_eq_some_iff.1 H0.out).1
  clear hb hx1
  go_wp2_with (first
    | (refine wpList_load_mid rfl 26 (.tmp 8) rfl w2.heap.size 0 rfl [.int .i64 k, .string nm, .int .i64 n, .slice la ll lc, .slice aa al ac] _ (range_of_row5 (cs := [.int .i64 k, .string nm, .int .i64 n, .slice la ll lc, .slice aa al ac]) M1.out) Tryd.underlying26 rfl exprSize ?_)
    | (refine wpList_store_row rfl 26 (.tmp 2) (.tmp 49) rfl w.heap.size #[.int .i64 k, .string nm, .int .i64 n, .slice la ll lc, .slice aa al ac] rfl rfl 26 _ H4.out exprSize rfl (by simp [Value.oneCell']) ?_))
  refine bodyPost_ret (results_row_two (P := Tryd.prog) Tryd.results14 _ _ w.heap.size 26 #[.int .i64 k, .string nm, .int .i64 n, .slice la ll lc, .slice aa al ac] (0, 0) _ (.int .i64 0) (.int .i64 0) rfl rfl rfl (setRow_heap _ _ _ _ _ _ H4.out) Tryd.underlying26 rfl exprSize) rfl ?_
  exact ⟨[.int .i64 k, .string nm, .int .i64 n, .slice la ll lc, .slice aa al ac], rfl, ExprC.mono (fun b hb _ => ⟨by omega, setRow_other _ _ _ _ (by omega)⟩) y _ HX.out, below_setRow HB4.out (Nat.le_refl _) _⟩
theorem rparse_c (s : ByteArray) (w : World) : Calls Tryd.prog 14 #[.string s] w (parsePost w (parseM s.data.toList)) := by
  cases hR : tokensM s.data.toList with
  | error e =>
    have : parseM s.data.toList = .error e := by unfold parseM; rw [hR]
    rw [this]
    exact rparse_scan s w e.1 e.2 hR
  | ok ts =>
    obtain ⟨x, hx, _⟩ := (both_gone (ts := ts) (en := s.size) (2 * ts.length + 4)).1 1 0 0 (by omega) (by omega)
    have hp : parseM s.data.toList = match x with | .error e => .error e | .ok (y, i, _) => if i < ts.length then .error (14, atT ts s.size i) else .ok y := by
      unfold parseM
      rw [hR]
      simp only [len_data, hx]
      cases x <;> rfl
    rw [hp]
    match x, hx with
    | .error e, hx => exact rparse_err s w ts e.1 e.2 hR hx
    | .ok (y, j, nd), hx =>
      by_cases hj : j < ts.length
      · simp only [hj, if_true]
        exact rparse_tail s w ts y j nd hR hx hj
      · simp only [hj, if_false]
        exact rparse_ok s w ts y j nd hR hx hj
#print axioms rparse_c

def resE : Except (Nat × Nat) E → E
  | .ok y => y
  | .error _ => .mk 0 [] 0 [] []
def resC : Except (Nat × Nat) E → Nat × Nat
  | .ok _ => (0, 0)
  | .error e => e
theorem parse_any {w : World} {R : Except (Nat × Nat) E} {x : Ending} {w' : World} (h : parsePost w R x w') :
    ∃ (k : Int) (nm : ByteArray) (n : Int) (la : Option Addr) (ll lc : Nat) (aa : Option Addr) (al ac : Nat), x = .returned (.tuple #[.agg #[.int .i64 k, .string nm, .int .i64 n, .slice la ll lc, .slice aa al ac], .int .i64 (resC R).1, .int .i64 (resC R).2]) ∧
      ExprC w' (fun _ => True) (resE R) [.int .i64 k, .string nm, .int .i64 n, .slice la ll lc, .slice aa al ac] ∧ Below w.heap.size w w' := by
  match R, h with
  | .ok y, h =>
    obtain ⟨cs, rfl, hx, hb⟩ := h
    obtain ⟨k, nm, n, la, ll, lc, aa, al, ac, rfl⟩ := hx.shape
    exact ⟨k, nm, n, la, ll, lc, aa, al, ac, rfl, ExprC.mono (fun _ _ _ => ⟨trivial, rfl⟩) _ _ hx, hb⟩
  | .error (er, p), h =>
    obtain ⟨rfl, hb⟩ := h
    refine ⟨0, ⟨#[]⟩, 0, none, 0, 0, none, 0, 0, rfl, ?_, hb⟩
    unfold resE ExprC
    exact ⟨none, 0, none, 0, rfl, fun h => absurd h (by simp), fun h => absurd h (by simp)⟩
theorem res_size {l : List UInt8} : sizeE (resE (parseM l)) ≤ 1000000000 ∧ entE (resE (parseM l)) ≤ 1000000000 := by
  match h : parseM l with
  | .ok x =>
    obtain ⟨hf, hsh, hd, hs⟩ := parse_props h
    have he2 := ent_short x hsh
    show sizeE x ≤ _ ∧ entE x ≤ _
    omega
  | .error _ => exact ⟨by simp [resE, sizeE, sizeL], by simp [resE, entE, entL]⟩

set_option maxHeartbeats 4000000 in
set_option maxRecDepth 100000 in
theorem lawParses_c (s : ByteArray) (w : World) (ht : Pows w) :
    Calls Tryd.prog 3 #[.string s] w fun e w' => e = .returned (.bool true) ∧ Below w.heap.size w w' := by
  have HA := Lib.hid (alive_c w ht)
  obtain ⟨hs, he⟩ := res_size (l := s.data.toList)
  have HP := Lib.hid (fun w => parse_c s w)
  have HQ := Lib.hid (fun w => rparse_c s w)
  generalize parseM s.data.toList = R at *
  clear ht
  go_enter Tryd.func3, Tryd.ntmps3
  go_wp2_with (go_at_call 12; refine HA.out.mono ?_)
  rintro e w1 ⟨rfl, hb1⟩
  have HB1 := Lib.hid hb1
  clear hb1
  go_wp2_with fail
  refine (HP.out w1).mono ?_
  intro u w2 hp
  obtain ⟨k, nm, n, la, ll, lc, aa, al, ac, rfl, hx, hb2⟩ := parse_any hp
  have hba : Below w2.heap.size w2 (w2.alloc (.cells #[.int .i64 k, .string nm, .int .i64 n, .slice la ll lc, .slice aa al ac] 26)) := (Below.refl _ _).alloc (Nat.le_refl _) _
  have hra : (w2.alloc (.cells #[.int .i64 k, .string nm, .int .i64 n, .slice la ll lc, .slice aa al ac] 26)).heap[w2.heap.size]? = some (.cells #[.int .i64 k, .string nm, .int .i64 n, .slice la ll lc, .slice aa al ac] 26 (0, 0)) := heap_alloc_new _ _
  have HX3 := Lib.hid (hx.grow hba)
  have HR3 := Lib.hid hra
  have HB3 := Lib.hid ((HB1.out.trans (hb2.mono HB1.out.size)).trans (hba.mono (Nat.le_trans HB1.out.size hb2.size)))
  clear hb2 hx hba hra HB1 hp
  go_wp2_with (refine wpList_store_new rfl 26 (.tmp 3) (.tmp 14) rfl w2 _ #[.int .i64 k, .string nm, .int .i64 n, .slice la ll lc, .slice aa al ac] rfl rfl exprSize rfl (by simp [Value.oneCell']) ?_)
  generalize w2.alloc (.cells #[.int .i64 k, .string nm, .int .i64 n, .slice la ll lc, .slice aa al ac] 26) = w3 at *
  generalize w2.heap.size = g2 at *
  refine (HQ.out w3).mono ?_
  intro u w4 hp
  obtain ⟨k', nm', n', la', ll', lc', aa', al', ac', rfl, hx, hb2⟩ := parse_any hp
  have hba : Below w4.heap.size w4 (w4.alloc (.cells #[.int .i64 k', .string nm', .int .i64 n', .slice la' ll' lc', .slice aa' al' ac'] 26)) := (Below.refl _ _).alloc (Nat.le_refl _) _
  have hra : (w4.alloc (.cells #[.int .i64 k', .string nm', .int .i64 n', .slice la' ll' lc', .slice aa' al' ac'] 26)).heap[w4.heap.size]? = some (.cells #[.int .i64 k', .string nm', .int .i64 n', .slice la' ll' lc', .slice aa' al' ac'] 26 (0, 0)) := heap_alloc_new _ _
  have hb35 := hb2.trans (hba.mono hb2.size)
  have HX5 := Lib.hid (HX3.out.grow hb35)
  have HY5 := Lib.hid (hx.grow hba)
  have HB5 := Lib.hid (HB3.out.trans (hb35.mono HB3.out.size))
  obtain ⟨z0, z1, z2, z3, z4⟩ := cells5 ((hb35.block _ (Array.getElem?_eq_some_iff.1 HR3.out).1).trans HR3.out)
  obtain ⟨y0, y1, y2, y3, y4⟩ := cells5 hra
  clear hb2 hx hba hra hb35 hp HX3 HR3 HB3
  go_wp2_with (refine wpList_store_new rfl 26 (.tmp 6) (.tmp 20) rfl w4 _ #[.int .i64 k', .string nm', .int .i64 n', .slice la' ll' lc', .slice aa' al' ac'] rfl rfl exprSize rfl (by simp [Value.oneCell']) ?_)
  refine (same_c (resE R) _ _ _ _ _ HX5.out HY5.out hs he).mono ?_
  rintro e w6 ⟨rfl, hb6⟩
  have HB6 := Lib.hid (HB5.out.trans (hb6.mono HB5.out.size))
  clear hb6 z0 z1 z2 z3 z4 y0 y1 y2 y3 y4
  go_wp2_with fail
  go_ret
  exact ⟨rfl, HB6.out⟩
#print axioms lawParses_c
end Go.Proofs.YtbjagceopgofiaaDoor
namespace Go.Proofs.YtbjagceopgofiaaDoor
open Go.ChangeShapes Go.WideShapes Go.ChangeAt Go.RowKit

set_option maxRecDepth 100000 in
theorem langParses_contract (H : Type) (enc : TypeId × Value → H) (W : World) (base : Nat) (args : Array Value) (ds gs : List (DataW H)) (before : List MemPlace)
    (hval : ∀ (j : Nat) t v, Tryd.f3.params[j]? = some t → args[j]? = some v → Value.okWide Tryd.prog W .any base t v)
    (hW : DataW.Whole enc Tryd.prog Tryd.f3.params.toList Rows.langParsesSpec.vars false W args.toList ds gs before) (hL : laidMetH Tryd.prog Rows.langParsesRow.laid W) :
    Calls Tryd.prog 3 args W fun e W' => ∃ v, e = .returned v ∧ Rows.langParsesSpec.post enc Tryd.prog Tryd.f3 false true false false W args v W' := by
  have hW' := hW
  obtain ⟨p, q, hA0, hV, rfl, hfz, hnd⟩ := hW
  have hA : DataW.TrodAll enc Tryd.prog W 0 (fun _ => true) true Tryd.f3.params.toList args.toList ds p := hA0
  rw [Tryd.params3] at hA hval
  obtain ⟨v0, vs0, d0, ds0, p0, q0, hargs, rfl, rfl, h0, r0⟩ := trodAll_cons hA
  obtain ⟨rfl, rfl, rfl⟩ := trodAll_nil r0
  obtain rfl : args = #[v0] := by cases args; simp_all
  obtain ⟨rfl, rfl⟩ := trodVars_none hV
  simp only [List.append_nil] at hW'
  have h0k := h0
  have hlt : ∀ x ∈ p0, x.block < W.heap.size := fun x hx => by simpa using hW'.lt x hx
  obtain ⟨s, rfl, rfl, rfl, hs⟩ := Go.ChangeMaps.open_string Tryd.underlying9 (hval 0 9 v0 rfl rfl) h0
  clear hA0
  refine (lawParses_c s W (pows_of hL)).mono fun e W' ⟨he, hb⟩ => ?_
  subst he
  exact ⟨_, rfl, post_of_below (pa := []) (pv := []) hW' (fun _ _ _ => trodAll_cons_mk (shut_bool Tryd.underlying4 _) trodAll_mk0)
    (fun sp hsp => by
      have hT := WideElems.Trod_stays (sp' := sp) laidOut (by kernel_rfl) (of_decide_eq_true (by kernel_rfl)) h0k (fun x hx => hb.same (hlt x hx)) (fun x hx => hsp x hx)
      have h2 := trodAll_cons_mk hT trodAll_mk0
      rw [List.append_nil] at h2
      exact h2) (fun _ _ => rfl) (by simp)
    hb (ok_one (by kernel_rfl) rfl (okWide_bool_mk Tryd.underlying4 _))⟩

theorem langParses_laid_met (os : Os) : laidMet Tryd.prog Rows.langParsesRow.laid ((laidWorld os).forCall (fun _ _ => 0) ⟨#[], #[.string ⟨#[]⟩], []⟩).memory :=
  laidMet_of_run' 8 (by kernel_rfl) (by kernel_rfl)
theorem langParses_reads (os : Os) {H : Type} (enc : TypeId × Value → H) : ∃ places, DataW.whole enc Tryd.prog ((laidWorld os).forCall (fun _ _ => 0) ⟨#[], #[.string ⟨#[]⟩], []⟩).memory Tryd.f3.params.toList Rows.langParsesSpec.vars false #[Value.string ⟨#[]⟩].toList 8 = some ([.lit (.string [])], [], places) :=
  ⟨[], by kernel_rfl⟩

set_option maxRecDepth 100000 in
theorem langParses_lifted (os : Os) (started : os.Started) (H : Type) (enc : TypeId × Value → H) (F : Stop.Interp) :
    ReturnsInHanded {} Tryd.checked os 3 .any ((OpenSpec.ofChange Rows.langParsesSpec).preRow enc Tryd.prog Tryd.f3 Rows.langParsesRow.domain false Rows.langParsesRow.laid) (((OpenSpec.ofChange Rows.langParsesSpec).at F).post enc Tryd.prog Tryd.f3 false true false false) := by
  obtain ⟨places, hx⟩ := langParses_reads os enc
  refine returnsInHanded_of_row (C := Tryd.checked) (s := OpenSpec.ofChange Rows.langParsesSpec) own started (by kernel_rfl) Tryd.func3
    (witness_row_at (enc := enc) (C := Tryd.checked) false (laidWorld os) #[.string ⟨#[]⟩] rfl (by kernel_rfl) (by kernel_rfl) (by kernel_rfl)
      (OpenSpec.preRow_of_cond 8 hx (by kernel_rfl) (fun k hk => by cases hk) (by kernel_rfl) (langParses_laid_met os))) ?_
  intro W base args ds gs before hval hW _ _ _ hL _ _
  exact langParses_contract H enc W base args ds gs before hval hW hL

theorem langParses_said : Rows.LangParsesSaid :=
  OpenClaim.holds_of_cond 3 Tryd.f3 rfl rfl rfl rfl rfl rfl rfl ⟨rfl, rfl, rfl, rfl, rfl⟩ rfl rfl rfl rfl rfl (by kernel_rfl) Tryd.func3 (by kernel_rfl)
    (of_decide_eq_true (by kernel_rfl)) (by unfold Func.isWrapper; first | (rw [if_pos (by decide +kernel)]; kernel_rfl) | (rw [if_neg (by decide +kernel)]; exact ⟨rfl, rfl⟩))
    (fun os started H enc _ F => by rw [OpenClaim.pre_eq_preRow]; exact langParses_lifted os started H enc F)

theorem langParses_plain (f : FuncId) (fn : Func) (hf : Tryd.pinned.checked.prog.funcNamed "codewright/codewrightlaw21.LangParses" = some f) (hfn : Tryd.pinned.checked.prog.funcs[f]? = some fn) :
    true = Tryd.pinned.checked.prog.looks [] ∧ ∀ (j : Nat) t, fn.params[j]? = some t → Tryd.pinned.checked.prog.wantsStandIn t = false := by
  obtain rfl : f = 3 := Option.some.inj ((show Tryd.prog.funcNamed "codewright/codewrightlaw21.LangParses" = some 3 by kernel_rfl).symm.trans hf) |>.symm
  obtain rfl : fn = Tryd.f3 := (Option.some.inj (Tryd.func3.symm.trans hfn)).symm
  refine ⟨by kernel_rfl, fun j t ht => ?_⟩
  rw [Tryd.params3] at ht
  obtain rfl : t = 9 := by simpa using Array.mem_of_getElem? ht
  exact (show Tryd.prog.wantsStandIn 9 = false by kernel_rfl)

/-- THE CARD. -/
theorem langParses_card : Rows.LangParsesCardSaid :=
  Claim7.holds_tied_plain_at .later [] _ _ _ _ langParses_said (fun _ h => by cases h) (by kernel_rfl) (fun _ h => by cases h) langParses_row_tie rfl ⟨rfl, rfl⟩ (by kernel_rfl) rfl langParses_plain (by kernel_rfl)
#print axioms langParses_card
end Go.Proofs.YtbjagceopgofiaaDoor
