/-
  The reference's reader: expr with a call.
-/
import Derived.Test.YtbjagceopgofiaaDoorReadC
namespace Go.Proofs.YtbjagceopgofiaaDoor
open Go.RowKit

def rargsPost (w : World) (A : Option Addr) (c : Nat) (ts : List Tok) (en : Nat) (r : Except (Nat × Nat) (List E × Nat × Nat)) (x : Ending) (w' : World) : Prop :=
  match r with
  | .ok (qs, j, nd) => ∃ aa ac, x = .returned (.tuple #[.slice aa qs.length ac, .agg (rdV A c ts.length en j nd 0 0)]) ∧ (0 < qs.length → ∃ b o, aa = some ⟨b, o, none⟩ ∧ w.heap.size ≤ b ∧ ExprsC w' (fun b => w.heap.size ≤ b) b o qs) ∧ Below w.heap.size w w'
  | .error (er, p) => ∃ i' nd' : Nat, x = .returned (.tuple #[.slice none 0 0, .agg (rdV A c ts.length en i' nd' er p)]) ∧ Below w.heap.size w w'

set_option maxHeartbeats 8000000 in
set_option maxRecDepth 100000 in
theorem rexpr_call_ok {A : Option Addr} {c : Nat} {ts : List Tok} {en i nd : Nat} (d : Nat) (w : World) (h : TA w A ts) (hl : ts.length ≤ 65536) (_hi : i ≤ ts.length) (hd : d ≤ 33) (hnd : nd ≤ 1024) (hk : kindT ts i = 1) (hbig : ¬ (32 < d ∨ nd = 1024)) (h40 : isT ts (i + 1) 40 = true) (qs : List E) (j nd' : Nat) (hargs : ∀ w', TA w' A ts → Calls Tryd.prog 60 #[.agg (rdV A c ts.length en (i + 2 : Nat) (nd + 1 : Nat) 0 0), .int .i64 ((d : Int) + 1)] w' (rargsPost w' A c ts en (.ok (qs, j, nd')))) :
    Calls Tryd.prog 30 #[.agg (rdV A c ts.length en i nd 0 0), .int .i64 d] w (rexprPost w A c ts en (.ok (.mk 3 (textT ts i) 0 [] qs, j, nd'))) := by
  have hil : i < ts.length := kindT_lt (by omega)
  have hd2 : ¬ 32 < d := by omega
  have hn2 : (((nd : Nat) : Int) == 1024) = false := by simp; omega
  have H40 := Lib.hid h40
  have hil2 := isT_lt h40
  have HARG := Lib.hid hargs
  clear h40 hargs
  have HT := Lib.hid h
  have HS0 := Lib.hid (EX.start (c := c) (en := en) (i := i) (nd := nd) h)
  clear h
  go_enter Tryd.func30, Tryd.ntmps30
  go_upto_region 1 with fail
  change Code.wp _ _ _ _ (((w.alloc (.cells (rdV A c ts.length en i nd 0 0) RdT)).alloc (.cells zeroE 26)).alloc (.cells zeroR RdT))
  generalize ((w.alloc (.cells (rdV A c ts.length en i nd 0 0) RdT)).alloc (.cells zeroE 26)).alloc (.cells zeroR RdT) = W at *
  go_wp2_with (refine wpList_load_mid rfl RdT (.tmp 2) rfl w.heap.size 0 rfl [.slice A ts.length c, .int .i64 en, .int .i64 i, .int .i64 nd, .int .i64 0, .int .i64 0] _ HS0.out.1.range Tryd.underlying55 rfl rdSize ?_)
  refine (rkind_c (i := i) W HS0.out.1.2.2.1 hl (by omega)).mono ?_
  rintro e w1 ⟨rfl, hb⟩
  have HS1 := Lib.hid (HS0.out.grow hb)
  clear hb HS0
  clear W
  rw [hk]
  have q3 : w1.cell? ⟨w.heap.size, 3, none⟩ = some (.int .i64 nd) := HS1.out.1.cell 3
  have f3 : w1.frozen? ⟨w.heap.size, 3, none⟩ = false := HS1.out.1.frozen 3
  have HN := Lib.hid (HS1.out.node HT.out)
  clear HS1
  go_upto_region 7 with fail
  go_simp
  clear q3 f3
  generalize w1.setCell ⟨w.heap.size, 3, none⟩ (.int .i64 ((nd : Int) + 1)) = w3 at *
  clear w1
  obtain ⟨gt, rfl, hgt, t0, t1, t2, t3⟩ := HN.out.1.2.2.1.at_ hil
  have HTX : Hid (textT ts i = ts[i].text) := by show _ = _; unfold textT; rw [List.getElem?_eq_getElem hil]
  have HTN : Hid (nT ts i = (ts[i].n : Int)) := by show _ = _; unfold nT; rw [List.getElem?_eq_getElem hil]
  have hrt : w3.rangeAt gt (i * 4) [.int .i64 ts[i].kind, .string ⟨ts[i].text.toArray⟩, .int .i64 ts[i].n, .int .i64 ts[i].pos] := fun j v hv => by
    match j, hv with
    | 0, hv => simp at hv; subst hv; exact t0
    | 1, hv => simp at hv; subst hv; exact t1
    | 2, hv => simp at hv; subst hv; exact t2
    | 3, hv => simp at hv; subst hv; exact t3
  have HRT := Lib.hid hrt
  clear t0 t1 t2 t3 hrt
  generalize ts[i].kind = tk at *
  generalize ts[i].text = tx at *
  generalize ts[i].n = tn at *
  generalize ts[i].pos = tp at *
  have i0 : (0 : Int) ≤ (i : Int) := by omega
  have i1 : (i : Int) < (ts.length : Int) := by omega
  have q0 : w3.cell? ⟨w.heap.size, 0, none⟩ = some (.slice (some ⟨gt, 0, none⟩) ts.length c) := HN.out.1.cell 0
  have q2 : w3.cell? ⟨w.heap.size, 2, none⟩ = some (.int .i64 i) := HN.out.1.cell 2
  have hba : Below w3.heap.size w3 (w3.alloc (.cells #[.int .i64 tk, .string ⟨tx.toArray⟩, .int .i64 tn, .int .i64 tp] 40)) := (Below.refl _ _).alloc (Nat.le_refl _) _
  have HM := Lib.hid (HN.out.grow hba)
  have HTK : Hid ((w3.alloc (.cells #[.int .i64 tk, .string ⟨tx.toArray⟩, .int .i64 tn, .int .i64 tp] 40)).heap[w3.heap.size]? = some (.cells #[.int .i64 tk, .string ⟨tx.toArray⟩, .int .i64 tn, .int .i64 tp] 40 (0, 0))) := heap_alloc_new _ _
  have hw3 : w.heap.size + 2 < w3.heap.size := (Array.getElem?_eq_some_iff.1 HN.out.1.2.1).1
  clear hba HN
  go_upto_region 8 with (first
    | (refine wpList_load_mid rfl 40 (.tmp 46) rfl gt (i * 4) rfl [.int .i64 tk, .string ⟨tx.toArray⟩, .int .i64 tn, .int .i64 tp] _ HRT.out Tryd.underlying40 rfl tokSize ?_)
    | (refine wpList_store_new rfl 40 (.tmp 7) (.tmp 47) rfl w3 _ #[.int .i64 tk, .string ⟨tx.toArray⟩, .int .i64 tn, .int .i64 tp] rfl rfl tokSize rfl (by simp [Value.oneCell']) ?_))
  go_simp
  clear q0 q2 HRT
  generalize w3.alloc (.cells #[.int .i64 tk, .string ⟨tx.toArray⟩, .int .i64 tn, .int .i64 tp] 40) = w4 at *
  generalize w3.heap.size = tb at *
  clear w3
  have q2 : w4.cell? ⟨w.heap.size, 2, none⟩ = some (.int .i64 i) := HM.out.1.cell 2
  have f2 : w4.frozen? ⟨w.heap.size, 2, none⟩ = false := HM.out.1.frozen 2
  have HS5 := Lib.hid (HM.out.next HT.out)
  have HT5 := Lib.hid ((Below.heap_setCell w4 ⟨w.heap.size, 2, none⟩ (.int .i64 ((i : Int) + 1)) tb (by show tb ≠ w.heap.size; omega)).trans HTK.out)
  clear HM HTK
  go_upto_region 9 with fail
  go_simp
  clear q2 f2
  generalize w4.setCell ⟨w.heap.size, 2, none⟩ (.int .i64 ((i : Int) + 1)) = w5 at *
  clear w4
  go_wp2_with (refine wpList_load_mid rfl RdT (.tmp 2) rfl w.heap.size 0 rfl [.slice (some ⟨gt, 0, none⟩) ts.length c, .int .i64 en, .int .i64 (i + 1 : Nat), .int .i64 (nd + 1 : Nat), .int .i64 0, .int .i64 0] _ HS5.out.1.range Tryd.underlying55 rfl rdSize ?_)
  refine (ris_c (i := i + 1) 40 w5 HS5.out.1.2.2.1 hl (by omega)).mono ?_
  rintro e w9 ⟨rfl, hb⟩
  rw [H40.out]
  have HS9 := Lib.hid (HS5.out.grow hb)
  have HT9 := Lib.hid ((hb.block _ (Array.getElem?_eq_some_iff.1 HT5.out).1).trans HT5.out)
  clear hb HS5 HT5
  clear w5
  have q2 : w9.cell? ⟨w.heap.size, 2, none⟩ = some (.int .i64 ((i : Int) + 1)) := HS9.out.1.cell 2
  have f2 : w9.frozen? ⟨w.heap.size, 2, none⟩ = false := HS9.out.1.frozen 2
  have HSA : Hid (EX w (some ⟨gt, 0, none⟩) c ts en (i + 1 + 1) (nd + 1) (w9.setCell ⟨w.heap.size, 2, none⟩ (.int .i64 ((i : Int) + 1 + 1)))) := HS9.out.next HT.out
  have HTA := Lib.hid ((Below.heap_setCell w9 ⟨w.heap.size, 2, none⟩ (.int .i64 ((i : Int) + 1 + 1)) tb (by show tb ≠ w.heap.size; omega)).trans HT9.out)
  clear HS9 HT9
  go_upto_region 17 with fail
  go_simp
  clear q2 f2
  generalize w9.setCell ⟨w.heap.size, 2, none⟩ (.int .i64 ((i : Int) + 1 + 1)) = w5 at *
  clear w9
  have HS5 := HSA
  have HT5 := HTA
  clear HSA HTA
  go_wp2_with (refine wpList_load_mid rfl RdT (.tmp 2) rfl w.heap.size 0 rfl [.slice (some ⟨gt, 0, none⟩) ts.length c, .int .i64 en, .int .i64 (i + 1 + 1 : Nat), .int .i64 (nd + 1 : Nat), .int .i64 0, .int .i64 0] _ HS5.out.1.range Tryd.underlying55 rfl rdSize ?_)
  refine (HARG.out w5 HS5.out.1.2.2.1).mono ?_
  intro x w6 hp
  have hw5 : w.heap.size + 2 < w5.heap.size := (Array.getElem?_eq_some_iff.1 HS5.out.1.2.1).1
  have htb5 : tb < w5.heap.size := (Array.getElem?_eq_some_iff.1 HT5.out).1
  clear HARG
  obtain ⟨aa, ac, rfl, hqs, hb6⟩ := hp
  have HQS := Lib.hid hqs
  clear hqs
  have hba : Below w6.heap.size w6 (w6.alloc (.cells (rdV (some ⟨gt, 0, none⟩) c ts.length en (j : Nat) (nd' : Nat) 0 0) RdT)) := (Below.refl _ _).alloc (Nat.le_refl _) _
  have hb57 := hb6.trans (hba.mono hb6.size)
  have HS7 := Lib.hid (HS5.out.grow hb57)
  have HT7 := Lib.hid ((hb57.block _ htb5).trans HT5.out)
  have HRW : Hid ((w6.alloc (.cells (rdV (some ⟨gt, 0, none⟩) c ts.length en (j : Nat) (nd' : Nat) 0 0) RdT)).heap[w6.heap.size]? = some (.cells (rdV (some ⟨gt, 0, none⟩) c ts.length en (j : Nat) (nd' : Nat) 0 0) RdT (0, 0))) := heap_alloc_new _ _
  have HRD : Hid ((w6.alloc (.cells (rdV (some ⟨gt, 0, none⟩) c ts.length en (j : Nat) (nd' : Nat) 0 0) RdT)).rangeAt w6.heap.size 0 [.slice (some ⟨gt, 0, none⟩) ts.length c, .int .i64 en, .int .i64 (j : Nat), .int .i64 (nd' : Nat), .int .i64 0, .int .i64 0]) := range_of_row5 (cs := [.slice (some ⟨gt, 0, none⟩) ts.length c, .int .i64 en, .int .i64 (j : Nat), .int .i64 (nd' : Nat), .int .i64 0, .int .i64 0]) HRW.out
  have HRB : Hid (w6.heap.size < (w6.alloc (.cells (rdV (some ⟨gt, 0, none⟩) c ts.length en (j : Nat) (nd' : Nat) 0 0) RdT)).heap.size) := (Array.getElem?_eq_some_iff.1 HRW.out).1
  have HRN : Hid (w6.heap.size ≠ w.heap.size + 1) := by show _ ≠ _; have := hb6.size; omega
  have HNE : Hid (tb ≠ w.heap.size + 1) := by show _ ≠ _; omega
  have H67 : Hid (Below w6.heap.size w6 (w6.alloc (.cells (rdV (some ⟨gt, 0, none⟩) c ts.length en (j : Nat) (nd' : Nat) 0 0) RdT))) := hba
  clear HS5 HT5 hba hb57 HRW
  go_upto_region 18 with (refine wpList_store_new rfl RdT (.tmp 11) (.tmp 85) rfl w6 _ (rdV (some ⟨gt, 0, none⟩) c ts.length en (j : Nat) (nd' : Nat) 0 0) rfl rfl rdSize rfl (by simp [Value.oneCell']) ?_)
  go_simp
  generalize w6.alloc (.cells (rdV (some ⟨gt, 0, none⟩) c ts.length en (j : Nat) (nd' : Nat) 0 0) RdT) = w7 at *
  have hw7' : w.heap.size + 2 < w7.heap.size := (Array.getElem?_eq_some_iff.1 HS7.out.1.2.1).1
  refine wp_region_two_tail 6 5 (by omega) (SBel w7) (SZ w7 (w.heap.size + 1) #[.int .i64 3, .string ⟨tx.toArray⟩, .int .i64 0, .slice none 0 0, .slice aa qs.length ac]) (by kernel_rfl) (by kernel_rfl) ((Below.refl _ _).drew) ?_
  simp only [List.take_succ_cons, List.take_zero, List.drop_succ_cons, List.drop_zero]
  repeat (first
    | (refine two_store_row rfl 26 (.tmp 4) (.tmp 89) rfl w7 (w.heap.size + 1) #[.int .i64 3, .string ⟨tx.toArray⟩, .int .i64 0, .slice none 0 0, .slice aa qs.length ac] rfl rfl 26 _ HS7.out.2 exprSize rfl (by simp [Value.oneCell']) ?_
       go_simp)
    | (refine two_load_mid (by omega) rfl RdT (.tmp 11) rfl w6.heap.size 0 rfl [.slice (some ⟨gt, 0, none⟩) ts.length c, .int .i64 en, .int .i64 (j : Nat), .int .i64 (nd' : Nat), .int .i64 0, .int .i64 0] _ (fun w' hS => sz_range hS HRD.out HRB.out HRN.out) Tryd.underlying55 rfl rdSize ?_
       go_simp)
    | (apply two_val (by omega) rfl
       · intro W' hS
         have e1 := sz_cell hS (cell_of_row _ _ 1 _ _ _ HT7.out) HNE.out
         go_simp
         try rfl
       go_simp))
  refine wpKeepT_nil ?_
  rintro wz ⟨w8, hS6, rfl⟩
  have HS8 := Lib.hid (HS7.out.grow hS6)
  have H56 := Lib.hid hS6
  clear hS6
  obtain ⟨g1, g2, g3, g4⟩ := HS8.out.stored #[.int .i64 3, .string ⟨tx.toArray⟩, .int .i64 0, .slice none 0 0, .slice aa qs.length ac] (rdV (some ⟨gt, 0, none⟩) c ts.length en (j : Nat) (nd' : Nat) 0 0)
  have G3 := Lib.hid g3
  go_wp2_with (refine wpList_store_row rfl RdT (.tmp 5) (.tmp 90) rfl (w.heap.size + 2) (rdV (some ⟨gt, 0, none⟩) c ts.length en (j : Nat) (nd' : Nat) 0 0) rfl rfl RdT _ G3.out rdSize rfl (by simp [Value.oneCell']) ?_)
  refine bodyPost_ret (results_row_row (P := Tryd.prog) Tryd.results30 _ _ (w.heap.size + 1) (w.heap.size + 2) 26 RdT #[.int .i64 3, .string ⟨tx.toArray⟩, .int .i64 0, .slice none 0 0, .slice aa qs.length ac] (rdV (some ⟨gt, 0, none⟩) c ts.length en (j : Nat) (nd' : Nat) 0 0) (0, 0) (0, 0) _ _ rfl rfl g1 g2 Tryd.underlying26 rfl exprSize Tryd.underlying55 rfl rdSize) rfl ?_
  refine ⟨[.int .i64 3, .string ⟨tx.toArray⟩, .int .i64 0, .slice none 0 0, .slice aa qs.length ac], rfl, ?_, g4⟩
  unfold ExprC
  refine ⟨none, 0, aa, ac, by rw [HTX.out]; rfl, fun h => absurd h (by simp), fun hz => ?_⟩
  obtain ⟨b, o, e, hbb, hx⟩ := HQS.out hz
  have hbl : b < w6.heap.size := by
    cases qs with
    | nil => simp at hz
    | cons y q =>
      unfold ExprsC at hx
      obtain ⟨⟨cs, h1, h2⟩, _⟩ := hx
      exact range_lt h1 (by rw [h2.len]; omega)
  have hkp : ∀ b, w5.heap.size ≤ b → b < w6.heap.size → _ := fun b hb hbl => ((setRow_other (w8.setRow (w.heap.size + 1) #[.int .i64 3, .string ⟨tx.toArray⟩, .int .i64 0, .slice none 0 0, .slice aa qs.length ac]) (w.heap.size + 2) b (rdV (some ⟨gt, 0, none⟩) c ts.length en j nd' 0 0) (by omega)).trans (setRow_other w8 (w.heap.size + 1) b #[.int .i64 3, .string ⟨tx.toArray⟩, .int .i64 0, .slice none 0 0, .slice aa qs.length ac] (by omega))).trans ((Below.block H56.out b (Nat.lt_of_lt_of_le hbl H67.out.size)).trans (H67.out.block b hbl))
  exact ⟨b, o, e, by omega, ExprsC.mono (fun b hb hbl => ⟨by omega, hkp b hb hbl⟩) (hkp b hbb hbl) qs o hx⟩
set_option maxHeartbeats 8000000 in
set_option maxRecDepth 100000 in
theorem rexpr_call_err {A : Option Addr} {c : Nat} {ts : List Tok} {en i nd : Nat} (d : Nat) (w : World) (h : TA w A ts) (hl : ts.length ≤ 65536) (_hi : i ≤ ts.length) (hd : d ≤ 33) (hnd : nd ≤ 1024) (hk : kindT ts i = 1) (hbig : ¬ (32 < d ∨ nd = 1024)) (h40 : isT ts (i + 1) 40 = true) (er p : Nat) (hargs : ∀ w', TA w' A ts → Calls Tryd.prog 60 #[.agg (rdV A c ts.length en (i + 2 : Nat) (nd + 1 : Nat) 0 0), .int .i64 ((d : Int) + 1)] w' (rargsPost w' A c ts en (.error (er, p)))) :
    Calls Tryd.prog 30 #[.agg (rdV A c ts.length en i nd 0 0), .int .i64 d] w (rexprPost w A c ts en (.error (er, p))) := by
  have hil : i < ts.length := kindT_lt (by omega)
  have hd2 : ¬ 32 < d := by omega
  have hn2 : (((nd : Nat) : Int) == 1024) = false := by simp; omega
  have H40 := Lib.hid h40
  have hil2 := isT_lt h40
  have HARG := Lib.hid hargs
  clear h40 hargs
  have HT := Lib.hid h
  have HS0 := Lib.hid (EX.start (c := c) (en := en) (i := i) (nd := nd) h)
  clear h
  go_enter Tryd.func30, Tryd.ntmps30
  go_upto_region 1 with fail
  change Code.wp _ _ _ _ (((w.alloc (.cells (rdV A c ts.length en i nd 0 0) RdT)).alloc (.cells zeroE 26)).alloc (.cells zeroR RdT))
  generalize ((w.alloc (.cells (rdV A c ts.length en i nd 0 0) RdT)).alloc (.cells zeroE 26)).alloc (.cells zeroR RdT) = W at *
  go_wp2_with (refine wpList_load_mid rfl RdT (.tmp 2) rfl w.heap.size 0 rfl [.slice A ts.length c, .int .i64 en, .int .i64 i, .int .i64 nd, .int .i64 0, .int .i64 0] _ HS0.out.1.range Tryd.underlying55 rfl rdSize ?_)
  refine (rkind_c (i := i) W HS0.out.1.2.2.1 hl (by omega)).mono ?_
  rintro e w1 ⟨rfl, hb⟩
  have HS1 := Lib.hid (HS0.out.grow hb)
  clear hb HS0
  clear W
  rw [hk]
  have q3 : w1.cell? ⟨w.heap.size, 3, none⟩ = some (.int .i64 nd) := HS1.out.1.cell 3
  have f3 : w1.frozen? ⟨w.heap.size, 3, none⟩ = false := HS1.out.1.frozen 3
  have HN := Lib.hid (HS1.out.node HT.out)
  clear HS1
  go_upto_region 7 with fail
  go_simp
  clear q3 f3
  generalize w1.setCell ⟨w.heap.size, 3, none⟩ (.int .i64 ((nd : Int) + 1)) = w3 at *
  clear w1
  obtain ⟨gt, rfl, hgt, t0, t1, t2, t3⟩ := HN.out.1.2.2.1.at_ hil
  have HTX : Hid (textT ts i = ts[i].text) := by show _ = _; unfold textT; rw [List.getElem?_eq_getElem hil]
  have HTN : Hid (nT ts i = (ts[i].n : Int)) := by show _ = _; unfold nT; rw [List.getElem?_eq_getElem hil]
  have hrt : w3.rangeAt gt (i * 4) [.int .i64 ts[i].kind, .string ⟨ts[i].text.toArray⟩, .int .i64 ts[i].n, .int .i64 ts[i].pos] := fun j v hv => by
    match j, hv with
    | 0, hv => simp at hv; subst hv; exact t0
    | 1, hv => simp at hv; subst hv; exact t1
    | 2, hv => simp at hv; subst hv; exact t2
    | 3, hv => simp at hv; subst hv; exact t3
  have HRT := Lib.hid hrt
  clear t0 t1 t2 t3 hrt
  generalize ts[i].kind = tk at *
  generalize ts[i].text = tx at *
  generalize ts[i].n = tn at *
  generalize ts[i].pos = tp at *
  have i0 : (0 : Int) ≤ (i : Int) := by omega
  have i1 : (i : Int) < (ts.length : Int) := by omega
  have q0 : w3.cell? ⟨w.heap.size, 0, none⟩ = some (.slice (some ⟨gt, 0, none⟩) ts.length c) := HN.out.1.cell 0
  have q2 : w3.cell? ⟨w.heap.size, 2, none⟩ = some (.int .i64 i) := HN.out.1.cell 2
  have hba : Below w3.heap.size w3 (w3.alloc (.cells #[.int .i64 tk, .string ⟨tx.toArray⟩, .int .i64 tn, .int .i64 tp] 40)) := (Below.refl _ _).alloc (Nat.le_refl _) _
  have HM := Lib.hid (HN.out.grow hba)
  have HTK : Hid ((w3.alloc (.cells #[.int .i64 tk, .string ⟨tx.toArray⟩, .int .i64 tn, .int .i64 tp] 40)).heap[w3.heap.size]? = some (.cells #[.int .i64 tk, .string ⟨tx.toArray⟩, .int .i64 tn, .int .i64 tp] 40 (0, 0))) := heap_alloc_new _ _
  have hw3 : w.heap.size + 2 < w3.heap.size := (Array.getElem?_eq_some_iff.1 HN.out.1.2.1).1
  clear hba HN
  go_upto_region 8 with (first
    | (refine wpList_load_mid rfl 40 (.tmp 46) rfl gt (i * 4) rfl [.int .i64 tk, .string ⟨tx.toArray⟩, .int .i64 tn, .int .i64 tp] _ HRT.out Tryd.underlying40 rfl tokSize ?_)
    | (refine wpList_store_new rfl 40 (.tmp 7) (.tmp 47) rfl w3 _ #[.int .i64 tk, .string ⟨tx.toArray⟩, .int .i64 tn, .int .i64 tp] rfl rfl tokSize rfl (by simp [Value.oneCell']) ?_))
  go_simp
  clear q0 q2 HRT
  generalize w3.alloc (.cells #[.int .i64 tk, .string ⟨tx.toArray⟩, .int .i64 tn, .int .i64 tp] 40) = w4 at *
  generalize w3.heap.size = tb at *
  clear w3
  have q2 : w4.cell? ⟨w.heap.size, 2, none⟩ = some (.int .i64 i) := HM.out.1.cell 2
  have f2 : w4.frozen? ⟨w.heap.size, 2, none⟩ = false := HM.out.1.frozen 2
  have HS5 := Lib.hid (HM.out.next HT.out)
  have HT5 := Lib.hid ((Below.heap_setCell w4 ⟨w.heap.size, 2, none⟩ (.int .i64 ((i : Int) + 1)) tb (by show tb ≠ w.heap.size; omega)).trans HTK.out)
  clear HM HTK
  go_upto_region 9 with fail
  go_simp
  clear q2 f2
  generalize w4.setCell ⟨w.heap.size, 2, none⟩ (.int .i64 ((i : Int) + 1)) = w5 at *
  clear w4
  go_wp2_with (refine wpList_load_mid rfl RdT (.tmp 2) rfl w.heap.size 0 rfl [.slice (some ⟨gt, 0, none⟩) ts.length c, .int .i64 en, .int .i64 (i + 1 : Nat), .int .i64 (nd + 1 : Nat), .int .i64 0, .int .i64 0] _ HS5.out.1.range Tryd.underlying55 rfl rdSize ?_)
  refine (ris_c (i := i + 1) 40 w5 HS5.out.1.2.2.1 hl (by omega)).mono ?_
  rintro e w9 ⟨rfl, hb⟩
  rw [H40.out]
  have HS9 := Lib.hid (HS5.out.grow hb)
  have HT9 := Lib.hid ((hb.block _ (Array.getElem?_eq_some_iff.1 HT5.out).1).trans HT5.out)
  clear hb HS5 HT5
  clear w5
  have q2 : w9.cell? ⟨w.heap.size, 2, none⟩ = some (.int .i64 ((i : Int) + 1)) := HS9.out.1.cell 2
  have f2 : w9.frozen? ⟨w.heap.size, 2, none⟩ = false := HS9.out.1.frozen 2
  have HSA : Hid (EX w (some ⟨gt, 0, none⟩) c ts en (i + 1 + 1) (nd + 1) (w9.setCell ⟨w.heap.size, 2, none⟩ (.int .i64 ((i : Int) + 1 + 1)))) := HS9.out.next HT.out
  have HTA := Lib.hid ((Below.heap_setCell w9 ⟨w.heap.size, 2, none⟩ (.int .i64 ((i : Int) + 1 + 1)) tb (by show tb ≠ w.heap.size; omega)).trans HT9.out)
  clear HS9 HT9
  go_upto_region 17 with fail
  go_simp
  clear q2 f2
  generalize w9.setCell ⟨w.heap.size, 2, none⟩ (.int .i64 ((i : Int) + 1 + 1)) = w5 at *
  clear w9
  have HS5 := HSA
  have HT5 := HTA
  clear HSA HTA
  go_wp2_with (refine wpList_load_mid rfl RdT (.tmp 2) rfl w.heap.size 0 rfl [.slice (some ⟨gt, 0, none⟩) ts.length c, .int .i64 en, .int .i64 (i + 1 + 1 : Nat), .int .i64 (nd + 1 : Nat), .int .i64 0, .int .i64 0] _ HS5.out.1.range Tryd.underlying55 rfl rdSize ?_)
  refine (HARG.out w5 HS5.out.1.2.2.1).mono ?_
  intro x w6 hp
  have hw5 : w.heap.size + 2 < w5.heap.size := (Array.getElem?_eq_some_iff.1 HS5.out.1.2.1).1
  have htb5 : tb < w5.heap.size := (Array.getElem?_eq_some_iff.1 HT5.out).1
  clear HARG
  obtain ⟨i', nd', rfl, hb6⟩ := hp
  have hba : Below w6.heap.size w6 (w6.alloc (.cells (rdV (some ⟨gt, 0, none⟩) c ts.length en (i' : Nat) (nd' : Nat) (er : Nat) (p : Nat)) RdT)) := (Below.refl _ _).alloc (Nat.le_refl _) _
  have hb57 := hb6.trans (hba.mono hb6.size)
  have HS7 := Lib.hid (HS5.out.grow hb57)
  have HT7 := Lib.hid ((hb57.block _ htb5).trans HT5.out)
  have HRW : Hid ((w6.alloc (.cells (rdV (some ⟨gt, 0, none⟩) c ts.length en (i' : Nat) (nd' : Nat) (er : Nat) (p : Nat)) RdT)).heap[w6.heap.size]? = some (.cells (rdV (some ⟨gt, 0, none⟩) c ts.length en (i' : Nat) (nd' : Nat) (er : Nat) (p : Nat)) RdT (0, 0))) := heap_alloc_new _ _
  have HRD : Hid ((w6.alloc (.cells (rdV (some ⟨gt, 0, none⟩) c ts.length en (i' : Nat) (nd' : Nat) (er : Nat) (p : Nat)) RdT)).rangeAt w6.heap.size 0 [.slice (some ⟨gt, 0, none⟩) ts.length c, .int .i64 en, .int .i64 (i' : Nat), .int .i64 (nd' : Nat), .int .i64 (er : Nat), .int .i64 (p : Nat)]) := range_of_row5 (cs := [.slice (some ⟨gt, 0, none⟩) ts.length c, .int .i64 en, .int .i64 (i' : Nat), .int .i64 (nd' : Nat), .int .i64 (er : Nat), .int .i64 (p : Nat)]) HRW.out
  have HRB : Hid (w6.heap.size < (w6.alloc (.cells (rdV (some ⟨gt, 0, none⟩) c ts.length en (i' : Nat) (nd' : Nat) (er : Nat) (p : Nat)) RdT)).heap.size) := (Array.getElem?_eq_some_iff.1 HRW.out).1
  have HRN : Hid (w6.heap.size ≠ w.heap.size + 1) := by show _ ≠ _; have := hb6.size; omega
  have HNE : Hid (tb ≠ w.heap.size + 1) := by show _ ≠ _; omega
  have H67 : Hid (Below w6.heap.size w6 (w6.alloc (.cells (rdV (some ⟨gt, 0, none⟩) c ts.length en (i' : Nat) (nd' : Nat) (er : Nat) (p : Nat)) RdT))) := hba
  clear HS5 HT5 hba hb57 HRW
  go_upto_region 18 with (refine wpList_store_new rfl RdT (.tmp 11) (.tmp 85) rfl w6 _ (rdV (some ⟨gt, 0, none⟩) c ts.length en (i' : Nat) (nd' : Nat) (er : Nat) (p : Nat)) rfl rfl rdSize rfl (by simp [Value.oneCell']) ?_)
  go_simp
  generalize w6.alloc (.cells (rdV (some ⟨gt, 0, none⟩) c ts.length en (i' : Nat) (nd' : Nat) (er : Nat) (p : Nat)) RdT) = w7 at *
  have hw7' : w.heap.size + 2 < w7.heap.size := (Array.getElem?_eq_some_iff.1 HS7.out.1.2.1).1
  refine wp_region_two_tail 6 5 (by omega) (SBel w7) (SZ w7 (w.heap.size + 1) #[.int .i64 3, .string ⟨tx.toArray⟩, .int .i64 0, .slice none 0 0, .slice none 0 0]) (by kernel_rfl) (by kernel_rfl) ((Below.refl _ _).drew) ?_
  simp only [List.take_succ_cons, List.take_zero, List.drop_succ_cons, List.drop_zero]
  repeat (first
    | (refine two_store_row rfl 26 (.tmp 4) (.tmp 89) rfl w7 (w.heap.size + 1) #[.int .i64 3, .string ⟨tx.toArray⟩, .int .i64 0, .slice none 0 0, .slice none 0 0] rfl rfl 26 _ HS7.out.2 exprSize rfl (by simp [Value.oneCell']) ?_
       go_simp)
    | (refine two_load_mid (by omega) rfl RdT (.tmp 11) rfl w6.heap.size 0 rfl [.slice (some ⟨gt, 0, none⟩) ts.length c, .int .i64 en, .int .i64 (i' : Nat), .int .i64 (nd' : Nat), .int .i64 (er : Nat), .int .i64 (p : Nat)] _ (fun w' hS => sz_range hS HRD.out HRB.out HRN.out) Tryd.underlying55 rfl rdSize ?_
       go_simp)
    | (apply two_val (by omega) rfl
       · intro W' hS
         have e1 := sz_cell hS (cell_of_row _ _ 1 _ _ _ HT7.out) HNE.out
         go_simp
         try rfl
       go_simp))
  refine wpKeepT_nil ?_
  rintro wz ⟨w8, hS6, rfl⟩
  have HS8 := Lib.hid (HS7.out.grow hS6)
  have H56 := Lib.hid hS6
  clear hS6
  obtain ⟨g1, g2, g3, g4⟩ := HS8.out.stored #[.int .i64 3, .string ⟨tx.toArray⟩, .int .i64 0, .slice none 0 0, .slice none 0 0] (rdV (some ⟨gt, 0, none⟩) c ts.length en (i' : Nat) (nd' : Nat) (er : Nat) (p : Nat))
  have G3 := Lib.hid g3
  go_wp2_with (refine wpList_store_row rfl RdT (.tmp 5) (.tmp 90) rfl (w.heap.size + 2) (rdV (some ⟨gt, 0, none⟩) c ts.length en (i' : Nat) (nd' : Nat) (er : Nat) (p : Nat)) rfl rfl RdT _ G3.out rdSize rfl (by simp [Value.oneCell']) ?_)
  refine bodyPost_ret (results_row_row (P := Tryd.prog) Tryd.results30 _ _ (w.heap.size + 1) (w.heap.size + 2) 26 RdT #[.int .i64 3, .string ⟨tx.toArray⟩, .int .i64 0, .slice none 0 0, .slice none 0 0] (rdV (some ⟨gt, 0, none⟩) c ts.length en (i' : Nat) (nd' : Nat) (er : Nat) (p : Nat)) (0, 0) (0, 0) _ _ rfl rfl g1 g2 Tryd.underlying26 rfl exprSize Tryd.underlying55 rfl rdSize) rfl ?_
  exact ⟨3, ⟨tx.toArray⟩, 0, none, 0, 0, none, 0, 0, i', nd', rfl, g4⟩
#print axioms rexpr_call_ok
#print axioms rexpr_call_err
end Go.Proofs.YtbjagceopgofiaaDoor
