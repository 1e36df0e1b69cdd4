/-
  The laws' bounds: within and small.
-/
import Derived.Test.YtbjagceopgofiaaDoorOpen
import Derived.Test.YtbjagceopgofiaaDoorCheck
namespace Go.Proofs.YtbjagceopgofiaaDoor
open Go.RowKit

mutual
def entM : E → Nat
  | .mk _ _ _ ls xs => min ls.length 6000 + entML xs
def entML : List E → Nat
  | [] => 0
  | x :: r => entM x + entML r
end
theorem entML_snoc : ∀ (l : List E) (x : E), entML (l ++ [x]) = entML l + entM x
  | [], x => by simp [entML]
  | y :: r, x => by
    rw [List.cons_append]
    unfold entML
    rw [entML_snoc r x]
    omega
mutual
theorem ent_of : ∀ x : E, okE x → entM x ≤ 6000 → entE x ≤ 9223372036854775807 ∧ (entM x < 6000 → entE x = entM x)
  | .mk k nm n ls xs, ho, h => by
    unfold okE at ho
    unfold entM at h
    unfold entM entE
    have := ents_of xs ho.2.2 (by omega)
    have h1 := ho.1
    simp only [Nat.min_def] at h ⊢
    split at h
    · rename_i h6
      rw [if_pos h6]
      omega
    · rename_i h6
      rw [if_neg h6]
      omega
theorem ents_of : ∀ l : List E, okL l → entML l ≤ 6000 → entL l ≤ 9223372036854775807 ∧ (entML l < 6000 → entL l = entML l)
  | [], _, _ => by simp [entL, entML]
  | x :: r, ho, h => by
    unfold okL at ho
    unfold entML at h
    unfold entML entL
    have h1 := ent_of x ho.1 (by omega)
    have h2 := ents_of r ho.2 (by omega)
    omega
end
/-- The two counts. -/
def CountAt (w : World) (pn pe nd en : Nat) : Prop :=
  w.heap[pn]? = some (.cells #[.int .i64 nd] 3 (0, 0)) ∧ w.heap[pe]? = some (.cells #[.int .i64 en] 3 (0, 0))
def K2 (pn pe : Nat) (w w' : World) : Prop := w'.os = w.os ∧ w'.tape = w.tape ∧ w'.output = w.output ∧ w.heap.size ≤ w'.heap.size ∧ ∀ k, k < w.heap.size → k ≠ pn → k ≠ pe → w'.heap[k]? = w.heap[k]?
theorem K2.refl (pn pe : Nat) (w : World) : K2 pn pe w w := ⟨rfl, rfl, rfl, Nat.le_refl _, fun _ _ _ _ => rfl⟩
theorem K2.trans {pn pe : Nat} {a b c : World} (h : K2 pn pe a b) (k : K2 pn pe b c) : K2 pn pe a c :=
  ⟨k.1.trans h.1, k.2.1.trans h.2.1, k.2.2.1.trans h.2.2.1, Nat.le_trans h.2.2.2.1 k.2.2.2.1, fun i hi h1 h2 => (k.2.2.2.2 i (Nat.lt_of_lt_of_le hi h.2.2.2.1) h1 h2).trans (h.2.2.2.2 i hi h1 h2)⟩
theorem K2.of_below {pn pe : Nat} {w w' : World} (h : Below w.heap.size w w') : K2 pn pe w w' := ⟨h.os, h.tape, h.output, h.size, fun k hk _ _ => h.block k hk⟩
theorem K2.below {pn pe B : Nat} {w w' : World} (h : K2 pn pe w w') (h1 : B ≤ pn) (h2 : B ≤ pe) (h3 : B ≤ w.heap.size) : Below B w w' :=
  ⟨h.1, h.2.1, h.2.2.1, h.2.2.2.1, fun k hk => h.2.2.2.2 k (by omega) (by omega) (by omega)⟩
theorem K2.set {pn pe b : Nat} {w : World} (v : Value) (hb : b = pn ∨ b = pe) : K2 pn pe w (w.setCell ⟨b, 0, none⟩ v) :=
  ⟨(Below.setCell (Below.refl 0 w) (p := ⟨b, 0, none⟩) (Nat.zero_le _) v).os, (Below.setCell (Below.refl 0 w) (p := ⟨b, 0, none⟩) (Nat.zero_le _) v).tape, (Below.setCell (Below.refl 0 w) (p := ⟨b, 0, none⟩) (Nat.zero_le _) v).output, (Below.setCell (Below.refl 0 w) (p := ⟨b, 0, none⟩) (Nat.zero_le _) v).size,
    fun k _ h1 h2 => Below.heap_setCell _ _ _ _ (by show k ≠ b; rcases hb with rfl | rfl; · exact h1
                                                    · exact h2)⟩
theorem one_set {w : World} {b : Nat} {u : Value} {t : TypeId} (v : Value) (h : w.heap[b]? = some (.cells #[u] t (0, 0))) : (w.setCell ⟨b, 0, none⟩ v).heap[b]? = some (.cells #[v] t (0, 0)) := one_setCell h
theorem ArgsAt.k2 {w w' : World} {B pn pe : Nat} {aa : Option Addr} {xs : List E} (h : ArgsAt w (· < B) aa xs) (hk : K2 pn pe w w') (h1 : B ≤ pn) (h2 : B ≤ pe) (h3 : B ≤ w.heap.size) : ArgsAt w' (· < B) aa xs := fun hz => by
  obtain ⟨b, o, e, hF, hx⟩ := h hz
  have hb := hk.below h1 h2 h3
  exact ⟨b, o, e, hF, ExprsC.mono (fun b hF _ => ⟨hF, hb.block b hF⟩) (hb.block b hF) xs o hx⟩
def InPost (x : E) (pn pe nd en : Nat) (w : World) (e : Ending) (w' : World) : Prop :=
  ∃ (b : Bool) (nd' en' : Nat), e = .returned (.bool b) ∧ CountAt w' pn pe nd' en' ∧ K2 pn pe w w' ∧ (b = true → nd' ≤ 1200 ∧ en' ≤ 6000 ∧ nd' = nd + sizeE x ∧ en' = en + entM x)
def RelIn (W : World) (pn pe n0 e0 : Nat) (xs : List E) (v : Value) (g : Nat) (wr : World) : Prop :=
  ∃ (i nd en : Nat), i + g = xs.length ∧ v = .int .i64 i ∧ CountAt wr pn pe nd en ∧ K2 pn pe W wr ∧ nd ≤ 1200 ∧ en ≤ 6000 ∧ nd = n0 + sizeL (xs.take i) ∧ en = e0 + entML (xs.take i)
def SBz (a w : World) : Prop := Below a.heap.size a w
theorem SBz.cell_ {a w : World} (h : SBz a w) {b o : Nat} {v : Value} (hc : a.cell? ⟨b, o, none⟩ = some v) : w.cell? ⟨b, o, none⟩ = some v :=
  (Below.cell h (p := ⟨b, o, none⟩) (World.block_lt_of_cell? a _ hc)).trans hc

theorem wrap_small (m : Nat) (h : m ≤ 1000000000) : IntKind.i64.wrap ((m : Nat) : Int) = (m : Int) := by
  simp [IntKind.wrap, IntKind.signed, IntKind.bits] <;> (try split) <;> omega
set_option maxHeartbeats 4000000 in
set_option maxRecDepth 100000 in
theorem within_c : ∀ (x : E) (cs : List Value) (B pn pe d nd en : Nat) (w : World), ExprC w (· < B) x cs → okE x → B ≤ w.heap.size → B ≤ pn → B ≤ pe → pn ≠ pe → CountAt w pn pe nd en → d ≤ 60 → nd ≤ 1200 → en ≤ 6000 →
    Calls Tryd.prog 32 #[.agg cs.toArray, .int .i64 d, .pointer (some ⟨pn, 0, none⟩), .pointer (some ⟨pe, 0, none⟩)] w (InPost x pn pe nd en w) := by
  refine expr_ind_ ?_
  intro k nm n ls xs ih cs B pn pe d nd en w h hok hB hpn hpe hne hct hd hnd hen
  unfold ExprC at h
  obtain ⟨la, lc, aa, ac, rfl, _, ha⟩ := h
  unfold okE at hok
  obtain ⟨hll, hxl, hoks⟩ := hok
  have HIH : Hid (∀ (i : Nat) (h : i < xs.length) (cs : List Value) (d nd en : Nat) (w' : World), ExprC w' (· < B) xs[i] cs → B ≤ w'.heap.size → CountAt w' pn pe nd en → d ≤ 60 → nd ≤ 1200 → en ≤ 6000 → Calls Tryd.prog 32 #[.agg cs.toArray, .int .i64 d, .pointer (some ⟨pn, 0, none⟩), .pointer (some ⟨pe, 0, none⟩)] w' (InPost xs[i] pn pe nd en w')) :=
    fun i h cs d nd en w' h1 h2 h3 h4 h5 h6 => ih _ (List.getElem_mem h) cs B pn pe d nd en w' h1 (okL_mem xs hoks _ (List.getElem_mem h)) h2 hpn hpe hne h3 h4 h5 h6
  have HA : Hid (ArgsAt w (· < B) aa xs) := ha
  have HSZ : Hid (sizeE (.mk k nm n ls xs) = 1 + sizeL xs) := by show _ = _; conv => lhs; unfold sizeE
  have HEN : Hid (entM (.mk k nm n ls xs) = min ls.length 6000 + entML xs) := by show _ = _; conv => lhs; unfold entM
  clear ih ha hoks
  obtain ⟨hcn, hce⟩ := hct
  have hpnw : pn < w.heap.size := (Array.getElem?_eq_some_iff.1 hcn).1
  have hpew : pe < w.heap.size := (Array.getElem?_eq_some_iff.1 hce).1
  have n0 := cell_of_one hcn
  have f0 := free_of_one hcn
  go_enter Tryd.func32, Tryd.ntmps32
  go_upto_region 2 with fail
  have hs0 : (w.setCell ⟨pn, 0, none⟩ (.int .i64 (nd + 1))).heap.size = w.heap.size := Nat.le_antisymm (by simp) (K2.set (pn := pn) (pe := pe) (.int .i64 (nd + 1)) (.inl rfl)).2.2.2.1
  have hal : Below (w.setCell ⟨pn, 0, none⟩ (.int .i64 (nd + 1))).heap.size (w.setCell ⟨pn, 0, none⟩ (.int .i64 (nd + 1))) ((w.setCell ⟨pn, 0, none⟩ (.int .i64 (nd + 1))).alloc (.cells #[.int .i64 k, .string ⟨nm.toArray⟩, .int .i64 n, .slice la ls.length lc, .slice aa xs.length ac] 26)) := (Below.refl _ _).alloc (Nat.le_refl _) _
  have hk1 : K2 pn pe w ((w.setCell ⟨pn, 0, none⟩ (.int .i64 (nd + 1))).alloc (.cells #[.int .i64 k, .string ⟨nm.toArray⟩, .int .i64 n, .slice la ls.length lc, .slice aa xs.length ac] 26)) := (K2.set _ (.inl rfl)).trans (K2.of_below hal)
  have hN1 := (hal.block pn (by rw [hs0]; exact hpnw)).trans (one_set (.int .i64 ((nd : Int) + 1)) hcn)
  have hE1 := (hal.block pe (by rw [hs0]; exact hpew)).trans ((Below.heap_setCell w ⟨pn, 0, none⟩ (.int .i64 (nd + 1)) pe (by show pe ≠ pn; exact hne.symm)).trans hce)
  have hR1 : ((w.setCell ⟨pn, 0, none⟩ (.int .i64 (nd + 1))).alloc (.cells #[.int .i64 k, .string ⟨nm.toArray⟩, .int .i64 n, .slice la ls.length lc, .slice aa xs.length ac] 26)).heap[w.heap.size]? = some (.cells #[.int .i64 k, .string ⟨nm.toArray⟩, .int .i64 n, .slice la ls.length lc, .slice aa xs.length ac] 26 (0, 0)) := by
    rw [← hs0]; exact heap_alloc_new _ _
  have HA1 := Lib.hid (HA.out.k2 hk1 hpn hpe hB)
  go_simp
  clear hal hs0 n0 f0 HA hcn hce
  generalize (w.setCell ⟨pn, 0, none⟩ (.int .i64 (nd + 1))).alloc (.cells #[.int .i64 k, .string ⟨nm.toArray⟩, .int .i64 n, .slice la ls.length lc, .slice aa xs.length ac] 26) = W1 at *
  obtain ⟨z, hz⟩ : ∃ z : Nat, z = min ls.length 6000 := ⟨_, rfl⟩
  have hz6 : z ≤ 6000 := by omega
  have hmin : min (ls.length : Int) 6000 = (z : Int) := by omega
  have HZ := Lib.hid hz
  clear hz
  have HFC : Hid (∀ w', SBz W1 w' → w'.cell? ⟨pe, 0, none⟩ = some (.int .i64 en) ∧ w'.cell? ⟨w.heap.size, 3, none⟩ = some (.slice la ls.length lc)) := by
    intro w' hw'
    obtain ⟨_, _, _, c3, _⟩ := cells5 hR1
    exact ⟨hw'.cell_ (cell_of_one hE1), hw'.cell_ c3⟩
  have HN1 := Lib.hid hN1
  have HE1 := Lib.hid hE1
  have HR1 := Lib.hid hR1
  have HK1 := Lib.hid hk1
  clear hN1 hE1 hR1 hk1
  refine wp_region_keep_tail 9 (SBz W1) (by kernel_rfl) (by kernel_rfl) ((Below.refl _ _).drew) ?_
  simp only [List.take_succ_cons, List.take_zero, List.drop_succ_cons, List.drop_zero]
  repeat (apply keep_val rfl
          · intro W' hS
            obtain ⟨e0, e1⟩ := HFC.out W' hS
            go_simp
            try rfl
          go_simp)
  refine wpKeep_nil ?_
  intro w2 hS2
  rw [show IntKind.i64.wrap ((en : Int) + (z : Int)) = (en : Int) + (z : Int) from wrap_small (en + z) (by omega)]
  have hN2 := (Below.block hS2 pn (Array.getElem?_eq_some_iff.1 HN1.out).1).trans HN1.out
  have hE2 := (Below.block hS2 pe (Array.getElem?_eq_some_iff.1 HE1.out).1).trans HE1.out
  have hR2 := (Below.block hS2 w.heap.size (Array.getElem?_eq_some_iff.1 HR1.out).1).trans HR1.out
  have hN3 : (w2.setCell ⟨pe, 0, none⟩ (.int .i64 ((en : Int) + (z : Int)))).heap[pn]? = some (.cells #[.int .i64 ((nd + 1 : Nat) : Int)] 3 (0, 0)) := (Below.heap_setCell w2 ⟨pe, 0, none⟩ _ pn (by show pn ≠ pe; exact hne)).trans hN2
  have hE3 := one_set (.int .i64 ((en : Int) + (z : Int))) hE2
  have hR3 := (Below.heap_setCell w2 ⟨pe, 0, none⟩ (.int .i64 ((en : Int) + (z : Int))) w.heap.size (by show w.heap.size ≠ pe; omega)).trans hR2
  have hk3 : K2 pn pe w (w2.setCell ⟨pe, 0, none⟩ (.int .i64 ((en : Int) + (z : Int)))) := (HK1.out.trans (K2.of_below hS2)).trans (K2.set _ (.inr rfl))
  have hk13 : K2 pn pe W1 (w2.setCell ⟨pe, 0, none⟩ (.int .i64 ((en : Int) + (z : Int)))) := (K2.of_below hS2).trans (K2.set _ (.inr rfl))
  have HA3 := Lib.hid (HA1.out.k2 hk13 hpn hpe (Nat.le_trans hB HK1.out.2.2.2.1))
  have e0 := cell_of_one hE2
  have f0 := free_of_one hE2
  have HN3 := Lib.hid hN3
  have HE3 := Lib.hid hE3
  have HR3 := Lib.hid hR3
  have HK3 := Lib.hid hk3
  clear hN2 hE2 hR2 hN3 hE3 hR3 hk3 hk13 HA1 HN1 HE1 HR1 HFC HK1 hmin
  go_upto_region 3 with fail
  go_simp
  clear e0 f0
  generalize w2.setCell ⟨pe, 0, none⟩ (.int .i64 ((en : Int) + (z : Int))) = W3 at *
  have HCT : Hid (CountAt W3 pn pe (nd + 1) (en + z)) := ⟨HN3.out, HE3.out⟩
  obtain ⟨c0, c1, c2, c3, c4⟩ := cells5 HR3.out
  have n3 := cell_of_one HN3.out
  have e3 := cell_of_one HE3.out
  by_cases h1 : 1200 < nd + 1
  · go_wp2_with fail
    go_ret
    exact ⟨false, nd + 1, en + z, rfl, HCT.out, HK3.out, fun h => by cases h⟩
  by_cases h2 : 6000 < en + z
  · go_wp2_with fail
    go_ret
    exact ⟨false, nd + 1, en + z, rfl, HCT.out, HK3.out, fun h => by cases h⟩
  by_cases h3 : d < 1
  · go_wp2_with fail
    go_ret
    exact ⟨false, nd + 1, en + z, rfl, HCT.out, HK3.out, fun h => by cases h⟩
  by_cases h4 : 100 < nm.length
  · go_wp2_with fail
    go_ret
    exact ⟨false, nd + 1, en + z, rfl, HCT.out, HK3.out, fun h => by cases h⟩
  go_wp2_with fail
  have hxw : w.heap.size < W3.heap.size := (Array.getElem?_eq_some_iff.1 HR3.out).1
  have hB3 : B ≤ W3.heap.size := by omega
  clear c0 c1 c2 c3 c4 n3 e3 HN3 HE3 HR3
  go_loopg [48] xs.length (fun g v wr => RelIn W3 pn pe (nd + 1) (en + z) xs v g wr)
  case atStart => exact ⟨0, nd + 1, en + z, by omega, rfl, HCT.out, K2.refl _ _ _, by omega, by omega, by simp [sizeL], by simp [entML]⟩
  case round =>
    obtain ⟨i, nd', en', hig, rfl, hct, hkr, hnd', hen', hnde, hene⟩ := hrel
    have HKR := Lib.hid hkr
    have HAR := Lib.hid (HA3.out.k2 hkr hpn hpe hB3)
    have HCR := Lib.hid hct
    have HNE := Lib.hid hnde
    have HEE := Lib.hid hene
    have hBr : B ≤ wr.heap.size := Nat.le_trans hB3 hkr.2.2.2.1
    clear hkr HA3 hct hnde hene HCT
    by_cases hi : i < xs.length
    · obtain ⟨b, o, k', nm', n', la', ll', lc', ab', al', ac', rfl, hrg, hec⟩ := HAR.out.at_ hi
      have HRG := Lib.hid hrg
      have hs1 : sizeL (xs.take (i + 1)) = sizeL (xs.take i) + sizeE xs[i] := by rw [take_snoc (List.getElem?_eq_getElem hi), sizeL_snoc]
      have hs2 : entML (xs.take (i + 1)) = entML (xs.take i) + entM xs[i] := by rw [take_snoc (List.getElem?_eq_getElem hi), entML_snoc]
      have HS1 := Lib.hid hs1
      have HS2 := Lib.hid hs2
      have hba : Below wr.heap.size wr (wr.alloc (.cells #[.int .i64 k', .string nm', .int .i64 n', .slice la' ll' lc', .slice ab' al' ac'] 26)) := (Below.refl _ _).alloc (Nat.le_refl _) _
      have hpr : pn < wr.heap.size := (Array.getElem?_eq_some_iff.1 HCR.out.1).1
      have hqr : pe < wr.heap.size := (Array.getElem?_eq_some_iff.1 HCR.out.2).1
      have HC : Hid (Calls Tryd.prog 32 #[.agg #[.int .i64 k', .string nm', .int .i64 n', .slice la' ll' lc', .slice ab' al' ac'], .int .i64 ((d - 1 : Nat) : Int), .pointer (some ⟨pn, 0, none⟩), .pointer (some ⟨pe, 0, none⟩)] (wr.alloc (.cells #[.int .i64 k', .string nm', .int .i64 n', .slice la' ll' lc', .slice ab' al' ac'] 26)) (InPost xs[i] pn pe nd' en' (wr.alloc (.cells #[.int .i64 k', .string nm', .int .i64 n', .slice la' ll' lc', .slice ab' al' ac'] 26)))) :=
        HIH.out i hi _ (d - 1) nd' en' _ (hec.grow hba) (Nat.le_trans hBr hba.size) ⟨(hba.block _ hpr).trans HCR.out.1, (hba.block _ hqr).trans HCR.out.2⟩ (by omega) hnd' hen'
      have HBA := Lib.hid hba
      have hdd : ((d - 1 : Nat) : Int) = (d : Int) - 1 := by omega
      rw [hdd] at HC
      have hi0 : (0 : Int) ≤ (i : Int) := by omega
      have hi1 : (i : Int) < (xs.length : Int) := by omega
      clear hrg hec HAR hs1 hs2 hba hdd HIH
      go_wp2_with (first
        | (refine wpList_load_mid rfl 26 (.tmp 50) rfl b (o + i * 5) rfl [.int .i64 k', .string nm', .int .i64 n', .slice la' ll' lc', .slice ab' al' ac'] _ HRG.out Tryd.underlying26 rfl exprSize ?_)
        | (refine wpList_store_new rfl 26 (.tmp 10) (.tmp 51) rfl wr _ #[.int .i64 k', .string nm', .int .i64 n', .slice la' ll' lc', .slice ab' al' ac'] rfl rfl exprSize rfl (by simp [Value.oneCell']) ?_))
      refine HC.out.mono ?_
      rintro e w5 ⟨b5, nd5, en5, rfl, hc5, hk5, ht5⟩
      have HK5 := Lib.hid (HKR.out.trans ((K2.of_below HBA.out).trans hk5))
      have HC5 := Lib.hid hc5
      have HT5 := Lib.hid ht5
      clear hc5 hk5 ht5 HC HKR HBA
      cases b5
      · go_wp2_with fail
        go_ret
        exact ⟨false, nd5, en5, rfl, HC5.out, HK3.out.trans HK5.out, fun h => by cases h⟩
      · go_wp2_with fail
        go_roundg (xs.length - (i + 1))
        case measure => omega
        case rel =>
          obtain ⟨h1, h2, h3, h4⟩ := HT5.out trivial
          have h5 := HS1.out
          have h6 := HS2.out
          have h7 := HNE.out
          have h8 := HEE.out
          exact ⟨i + 1, nd5, en5, by omega, by simp, HC5.out, HK5.out, h1, h2, by omega, by omega⟩
    · go_wp2_with fail
      go_ret
      refine ⟨true, nd', en', rfl, HCR.out, HK3.out.trans HKR.out, fun _ => ⟨hnd', hen', ?_, ?_⟩⟩
      · have := HNE.out
        rw [List.take_of_length_le (by omega)] at this
        rw [HSZ.out]
        omega
      · have := HEE.out
        rw [List.take_of_length_le (by omega)] at this
        rw [HEN.out, ← HZ.out]
        omega

theorem heap3 (w : World) (o1 o2 o3 : Obj) : (((w.alloc o1).alloc o2).alloc o3).heap[w.heap.size]? = some o1 ∧ (((w.alloc o1).alloc o2).alloc o3).heap[w.heap.size + 1]? = some o2 ∧ (((w.alloc o1).alloc o2).alloc o3).heap[w.heap.size + 2]? = some o3 := by
  have s1 : (w.alloc o1).heap.size = w.heap.size + 1 := World.size_alloc _ _
  have s2 : ((w.alloc o1).alloc o2).heap.size = w.heap.size + 2 := by rw [World.size_alloc, s1]
  refine ⟨?_, ?_, ?_⟩
  · rw [Lib.alloc_old _ _ _ (by omega), Lib.alloc_old _ _ _ (by omega)]; exact heap_alloc_new _ _
  · rw [Lib.alloc_old _ _ _ (by omega), ← s1]; exact heap_alloc_new _ _
  · rw [← s2]; exact heap_alloc_new _ _
set_option maxHeartbeats 4000000 in
set_option maxRecDepth 100000 in
/-- small: where it says yes, the expression is small; the two counts are new memory. -/
theorem small_c (x : E) (cs : List Value) (F : Nat → Prop) (w : World) (h : ExprC w F x cs) (hok : okE x) :
    Calls Tryd.prog 16 #[.agg cs.toArray, .int .i64 60] w fun e w' => ∃ b, e = .returned (.bool b) ∧ Below w.heap.size w w' ∧ (b = true → sizeE x ≤ 1200 ∧ entE x ≤ 9223372036854775807) := by
  obtain ⟨k, nm, n, la, ll, lc, aa, al, ac, rfl⟩ := h.shape
  have HX := Lib.hid h.all
  have HOK := Lib.hid hok
  clear h hok
  obtain ⟨r0, r1, r2⟩ := heap3 w (.cells #[.int .i64 k, .string nm, .int .i64 n, .slice la ll lc, .slice aa al ac] 26) (.cells #[.int .i64 0] 3) (.cells #[.int .i64 0] 3)
  have hb : Below w.heap.size w (((w.alloc (.cells #[.int .i64 k, .string nm, .int .i64 n, .slice la ll lc, .slice aa al ac] 26)).alloc (.cells #[.int .i64 0] 3)).alloc (.cells #[.int .i64 0] 3)) :=
    (((Below.refl _ _).alloc (Nat.le_refl _) _).alloc (by simp) _).alloc (by simp; omega) _
  obtain ⟨z0, z1, z2, z3, z4⟩ := cells5 r0
  have HC : Hid (CountAt (((w.alloc (.cells #[.int .i64 k, .string nm, .int .i64 n, .slice la ll lc, .slice aa al ac] 26)).alloc (.cells #[.int .i64 0] 3)).alloc (.cells #[.int .i64 0] 3)) (w.heap.size + 1) (w.heap.size + 2) 0 0) := ⟨r1, r2⟩
  have HB := Lib.hid hb
  have HXB := Lib.hid (HX.out.kept hb)
  clear r0 r1 r2 hb
  go_enter Tryd.func16, Tryd.ntmps16
  go_wp2_with fail
  generalize ((w.alloc (.cells #[.int .i64 k, .string nm, .int .i64 n, .slice la ll lc, .slice aa al ac] 26)).alloc (.cells #[.int .i64 0] 3)).alloc (.cells #[.int .i64 0] 3) = W at *
  clear z0 z1 z2 z3 z4
  refine (within_c x _ w.heap.size (w.heap.size + 1) (w.heap.size + 2) 60 0 0 W HXB.out HOK.out HB.out.size (by omega) (by omega) (by omega) HC.out (by omega) (by omega) (by omega)).mono ?_
  rintro e w5 ⟨b, nd, en, rfl, _, hk, ht⟩
  have HK := Lib.hid (HB.out.trans (hk.below (by omega) (by omega) HB.out.size))
  have HT := Lib.hid ht
  clear hk ht
  go_wp2_with fail
  go_ret
  refine ⟨b, rfl, HK.out, fun hbt => ?_⟩
  obtain ⟨h1, h2, h3, h4⟩ := HT.out hbt
  exact ⟨by omega, (ent_of x HOK.out (by omega)).1⟩
#print axioms small_c
end Go.Proofs.YtbjagceopgofiaaDoor
