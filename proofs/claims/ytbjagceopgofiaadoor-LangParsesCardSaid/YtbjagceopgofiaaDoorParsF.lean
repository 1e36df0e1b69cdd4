/-
  The parser's method expr: lists, numbers, names.
-/
import Derived.Test.YtbjagceopgofiaaDoorParsE
namespace Go.Proofs.YtbjagceopgofiaaDoor
open Go.RowKit

def listRes (nd : Nat) (r0 : Except (Nat × Nat) (List Int × Nat)) : Except (Nat × Nat) (E × Nat × Nat) :=
  match r0 with
  | .error e => .error e
  | .ok (l, j) => .ok (.mk 2 [] 0 l [], j, nd + 1)

theorem ints_of_own {w : World} {base : Nat} {v : Value} {l : List Int} {F : Nat → Prop} (h : OwnInts w base v l) (hF : ∀ b, base ≤ b → F b) : ∃ la lc, v = .slice la l.length lc ∧ IntsF w F la l := by
  have h' : w.ownsRow base 3 1 v l.length (l.map (Value.int .i64)) := h
  rcases h.2 with ⟨rfl, h0⟩ | ⟨g, cap, cur, rfl, hg, r⟩
  · exact ⟨none, 0, by rw [h0], fun hz => by omega⟩
  · refine ⟨_, cap, rfl, fun hz => ⟨g, 0, rfl, hF g hg, fun j hj => ?_⟩⟩
    have := h'.cellAt j (by omega)
    rw [Nat.zero_add, this, List.getElem?_map, List.getElem?_eq_getElem hj]
    simp [List.getD, List.getElem?_eq_getElem hj]

set_option maxHeartbeats 8000000 in
set_option maxRecDepth 100000 in
theorem expr_list {gp tb : Nat} {A : Option Addr} {c : Nat} {ts : List Tok} {en i nd : Nat} (d : Nat) (w : World) (h : PSt w gp tb A c ts en i nd) (hd : d ≤ 32) (hnd : nd ≠ 1024) (hk3 : isT ts i 91 = true) (f : Nat) (r0 : Except (Nat × Nat) (List Int × Nat)) (r : Except (Nat × Nat) (E × Nat × Nat)) (hr : r = listRes nd r0) (hl : listTop ts en f (i + 1) = some r0) :
    Calls Tryd.prog 27 #[.pointer (some ⟨gp, 0, none⟩), .int .i64 d] w (exprPost w gp tb A c ts en r) := by
  have H := Lib.hid h
  have HR := Lib.hid hr
  have hli := h.li
  have hlts := h.lts
  have hlnd := h.lnd
  have HTB : Hid (∀ k, k < ts.length → tb < w.heap.size) := fun k hk => h.toks.lt hk
  have HK3 := Lib.hid hk3
  have hn1 : ((nd : Int) == 1024) = false := by simp; omega
  have hnd2 : nd < 1024 := by omega
  have hd1 : ¬ 32 < d := by omega
  clear h hr hk3 hnd
  have HL := Lib.hid hl
  clear hl
  go_enter Tryd.func27, Tryd.ntmps27
  go_upto_region 1 with fail
  have HE1 := Lib.hid (ESt.start H.out)
  change Code.wp _ _ _ _ (w.alloc (.cells zeroE 26))
  generalize w.alloc (.cells zeroE 26) = W1 at *
  have p1 : W1.cell? ⟨gp, 1, none⟩ = some (.int .i64 i) := HE1.out.1.cell 1
  have hgp1 : gp < W1.heap.size := HE1.out.1.lt
  go_cut [5, 6] (fun s5 s6 wx => CutStart W1 i (atT ts en i) s5 s6 wx)
  case first =>
    refine wp_region_keep (SAt W1 gp i) (by kernel_rfl) (by kernel_rfl) ⟨(Below.refl _ _).drew, p1⟩ ?_
    repeat (first
      | (apply keep_val rfl
         · intro W hS
           obtain ⟨_, e1⟩ := hS
           go_simp
           rfl
         go_simp)
      | (apply keep_call rfl
         · intro W hS
           go_simp
           exact ⟨rfl, rfl⟩
         · intro W hS
           exact (at_c W (HE1.out.1.grow hS.1)).mono (by rintro e w' ⟨rfl, hb⟩; exact ⟨rfl, hS.1.trans (hb.mono hS.1.size), (hb.cell (p := ⟨gp, 1, none⟩) (by have := hS.1.size; show gp < _; omega)).trans hS.2⟩)
         go_simp))
    refine wpKeep_nil ?_
    intro w2 hS2
    go_wp2_with fail
    go_meet
    exact ⟨rfl, rfl, hS2.1⟩
  case rest =>
    obtain ⟨rfl, rfl, hb⟩ := hcut
    have HE2 := Lib.hid (HE1.out.grow hb)
    clear hb HE1 p1 hgp1
    go_wp2_with fail
    refine (is_yes 91 _ HE2.out.1 HK3.out).mono ?_
    rintro e w3 ⟨rfl, hp, hg⟩
    have HE3 := Lib.hid (HE2.out.via hg hp)
    clear hp hg HE2
    go_wp2_with fail
    refine (kind_c _ HE3.out.1).mono ?_
    rintro e w4 ⟨rfl, hb⟩
    have HE4 := Lib.hid (HE3.out.grow hb)
    clear hb HE3
    have p3 : w4.cell? ⟨gp, 3, none⟩ = some (.int .i64 nd) := HE4.out.1.cell 3
    have f3 : w4.frozen? ⟨gp, 3, none⟩ = false := HE4.out.1.frozen 3
    go_wp2_with fail
    have HE5 : Hid (ESt w gp tb A c ts en (i + 1) (nd + 1) (w4.setCell ⟨gp, 3, none⟩ (.int .i64 ((nd : Int) + 1)))) := HE4.out.via (HE4.out.1.node (by omega)).2 (HE4.out.1.node (by omega)).1
    refine (list_c _ HE5.out.1 r0 HL.out).mono ?_
    intro x w6 hp
    match r0, HR, hp with
    | .error (er, p), HR, hp =>
      obtain ⟨rfl, hg6⟩ := hp
      have HG6 := Lib.hid (grown_tr HE5.out.2.1 hg6)
      clear hg6
      go_wp2_with fail
      refine ⟨rfl, ?_⟩
      rw [HR.out]
      exact ⟨rfl, HG6.out⟩
    | .ok (l, j), HR, hp =>
      obtain ⟨v, rfl, ho6, hp6, hg6⟩ := hp
      have HE6 := Lib.hid (HE5.out.via hg6 hp6)
      have hsz := HE5.out.size
      obtain ⟨la, lc, rfl, hints⟩ := ints_of_own (F := fun b => w.heap.size < b) ho6 (fun b hb => by omega)
      have HI := Lib.hid hints
      clear ho6 hp6 hg6 hints hsz HE5 HE4
      go_wp2_with (refine wpList_store_row rfl 26 (.tmp 4) (.tmp 54) rfl w.heap.size #[.int .i64 2, .string ⟨#[]⟩, .int .i64 0, .slice la l.length lc, .slice none 0 0] rfl rfl 26 _ HE6.out.2.2.1 exprSize rfl (by simp [Value.oneCell']) ?_)
      refine bodyPost_ret (results_cell_row (P := Tryd.prog) Tryd.results27 _ _ w.heap.size 26 #[.int .i64 2, .string ⟨#[]⟩, .int .i64 0, .slice la l.length lc, .slice none 0 0] (0, 0) _ rfl (setRow_heap _ _ _ _ _ _ HE6.out.2.2.1) Tryd.underlying26 rfl exprSize) rfl ?_
      rw [HR.out]
      exact HE6.out.done HTB.out (cs := [.int .i64 2, .string ⟨#[]⟩, .int .i64 0, .slice la l.length lc, .slice none 0 0]) (by unfold ExprC; exact ⟨la, lc, none, 0, rfl, HI.out, fun hz => by simp at hz⟩)

set_option maxHeartbeats 8000000 in
set_option maxRecDepth 100000 in
theorem expr_num {gp tb : Nat} {A : Option Addr} {c : Nat} {ts : List Tok} {en i nd : Nat} (d : Nat) (w : World) (h : PSt w gp tb A c ts en i nd) (hd : d ≤ 32) (hnd : nd ≠ 1024) (hk : kindT ts i = 2) (hk3 : isT ts i 91 = false) (r : Except (Nat × Nat) (E × Nat × Nat)) (hr : r = .ok (.mk 1 [] (nT ts i) [] [], i + 1, nd + 1)) :
    Calls Tryd.prog 27 #[.pointer (some ⟨gp, 0, none⟩), .int .i64 d] w (exprPost w gp tb A c ts en r) := by
  have HIL : Hid (i < ts.length) := kindT_lt (by omega)
  have hil := HIL.out
  have i0' : (0 : Int) ≤ (i : Int) := by omega
  have i1' : (i : Int) < (ts.length : Int) := by omega
  have H := Lib.hid h
  have HR := Lib.hid hr
  have hli := h.li
  have hlts := h.lts
  have hlnd := h.lnd
  have HTB : Hid (∀ k, k < ts.length → tb < w.heap.size) := fun k hk => h.toks.lt hk
  have HK3 := Lib.hid hk3
  have hn1 : ((nd : Int) == 1024) = false := by simp; omega
  have hnd2 : nd < 1024 := by omega
  have hd1 : ¬ 32 < d := by omega
  clear h hr hk3 hnd
  have q1 : (((kindT ts i : Nat) : Int) != 2) = false := by simp; omega
  have q3 : (((kindT ts i : Nat) : Int) == 2) = true := by simp; omega
  clear hk
  go_enter Tryd.func27, Tryd.ntmps27
  go_upto_region 1 with fail
  have HE1 := Lib.hid (ESt.start H.out)
  change Code.wp _ _ _ _ (w.alloc (.cells zeroE 26))
  generalize w.alloc (.cells zeroE 26) = W1 at *
  have p1 : W1.cell? ⟨gp, 1, none⟩ = some (.int .i64 i) := HE1.out.1.cell 1
  have hgp1 : gp < W1.heap.size := HE1.out.1.lt
  go_cut [5, 6] (fun s5 s6 wx => CutStart W1 i (atT ts en i) s5 s6 wx)
  case first =>
    refine wp_region_keep (SAt W1 gp i) (by kernel_rfl) (by kernel_rfl) ⟨(Below.refl _ _).drew, p1⟩ ?_
    repeat (first
      | (apply keep_val rfl
         · intro W hS
           obtain ⟨_, e1⟩ := hS
           go_simp
           rfl
         go_simp)
      | (apply keep_call rfl
         · intro W hS
           go_simp
           exact ⟨rfl, rfl⟩
         · intro W hS
           exact (at_c W (HE1.out.1.grow hS.1)).mono (by rintro e w' ⟨rfl, hb⟩; exact ⟨rfl, hS.1.trans (hb.mono hS.1.size), (hb.cell (p := ⟨gp, 1, none⟩) (by have := hS.1.size; show gp < _; omega)).trans hS.2⟩)
         go_simp))
    refine wpKeep_nil ?_
    intro w2 hS2
    go_wp2_with fail
    go_meet
    exact ⟨rfl, rfl, hS2.1⟩
  case rest =>
    obtain ⟨rfl, rfl, hb⟩ := hcut
    have HE2 := Lib.hid (HE1.out.grow hb)
    clear hb HE1 p1 hgp1
    go_wp2_with fail
    refine (is_no 91 _ HE2.out.1 HK3.out).mono ?_
    rintro e w3 ⟨rfl, hb⟩
    have HE3 := Lib.hid (HE2.out.grow hb)
    clear hb HE2
    go_wp2_with fail
    refine (kind_c _ HE3.out.1).mono ?_
    rintro e w4 ⟨rfl, hb⟩
    have HE4 := Lib.hid (HE3.out.grow hb)
    clear hb HE3
    have p3 : w4.cell? ⟨gp, 3, none⟩ = some (.int .i64 nd) := HE4.out.1.cell 3
    have f3 : w4.frozen? ⟨gp, 3, none⟩ = false := HE4.out.1.frozen 3
    go_upto_region 11 with fail
    have HE5 : Hid (ESt w gp tb A c ts en i (nd + 1) (w4.setCell ⟨gp, 3, none⟩ (.int .i64 ((nd : Int) + 1)))) := HE4.out.via (HE4.out.1.node (by omega)).2 (HE4.out.1.node (by omega)).1
    obtain ⟨rfl, hrg⟩ := HE5.out.1.toks i ts[i] (List.getElem?_eq_getElem hil)
    have p1 : (w4.setCell ⟨gp, 3, none⟩ (.int .i64 ((nd : Int) + 1))).cell? ⟨gp, 1, none⟩ = some (.int .i64 i) := HE5.out.1.cell 1
    have f1 : (w4.setCell ⟨gp, 3, none⟩ (.int .i64 ((nd : Int) + 1))).frozen? ⟨gp, 1, none⟩ = false := HE5.out.1.frozen 1
    generalize w4.setCell ⟨gp, 3, none⟩ (.int .i64 ((nd : Int) + 1)) = w5 at *
    go_upto_region 12 with fail
    have HE6 : Hid (ESt w gp tb (some ⟨tb, 0, none⟩) c ts en (i + 1) (nd + 1) (w5.setCell ⟨gp, 1, none⟩ (.int .i64 ((i : Int) + 1)))) := HE5.out.via (HE5.out.1.step (k := 1) (Below.refl _ _) (by omega)).2 (HE5.out.1.step (k := 1) (Below.refl _ _) (by omega)).1
    clear hrg HE4 HE5 p3 f3 p1 f1
    generalize w5.setCell ⟨gp, 1, none⟩ (.int .i64 ((i : Int) + 1)) = w6 at *
    obtain ⟨_, hrg6⟩ := HE6.out.1.toks i ts[i] (List.getElem?_eq_getElem hil)
    have p0 : w6.cell? ⟨gp, 0, none⟩ = some (.slice (some ⟨tb, 0, none⟩) ts.length c) := HE6.out.1.cell 0
    have HNT : Hid (nT ts i = (ts[i].n : Int)) := by show _ = _; unfold nT; rw [List.getElem?_eq_getElem hil]
    have HTX : Hid (textT ts i = ts[i].text) := by show _ = _; unfold textT; rw [List.getElem?_eq_getElem hil]
    have HTK : Hid (w6.rangeAt tb (i * 4) [.int .i64 ts[i].kind, .string ⟨ts[i].text.toArray⟩, .int .i64 ts[i].n, .int .i64 ts[i].pos]) := hrg6
    clear hrg6
    generalize ts[i] = tk at *
    have HE7 : Hid (ESt w gp tb (some ⟨tb, 0, none⟩) c ts en (i + 1) (nd + 1) (w6.alloc (.cells #[.int .i64 tk.kind, .string ⟨tk.text.toArray⟩, .int .i64 tk.n, .int .i64 tk.pos] 40))) := HE6.out.grow ((Below.refl _ _).alloc (Nat.le_refl _) _)
    go_wp2_with (first
      | (refine wpList_load_mid rfl 40 (.tmp 65) rfl tb (i * 4) rfl [.int .i64 tk.kind, .string ⟨tk.text.toArray⟩, .int .i64 tk.n, .int .i64 tk.pos] _ HTK.out Tryd.underlying40 rfl tokSize ?_)
      | (refine wpList_store_new rfl 40 (.tmp 9) (.tmp 66) rfl w6 _ #[.int .i64 tk.kind, .string ⟨tk.text.toArray⟩, .int .i64 tk.n, .int .i64 tk.pos] rfl rfl tokSize rfl (by simp [Value.oneCell']) ?_)
      | (refine wpList_store_row rfl 26 (.tmp 4) (.tmp 71) rfl w.heap.size #[.int .i64 1, .string ⟨#[]⟩, .int .i64 tk.n, .slice none 0 0, .slice none 0 0] rfl rfl 26 _ HE7.out.2.2.1 exprSize rfl (by simp [Value.oneCell']) ?_))
    refine bodyPost_ret (results_cell_row (P := Tryd.prog) Tryd.results27 _ _ w.heap.size 26 #[.int .i64 1, .string ⟨#[]⟩, .int .i64 tk.n, .slice none 0 0, .slice none 0 0] (0, 0) _ rfl (setRow_heap _ _ _ _ _ _ HE7.out.2.2.1) Tryd.underlying26 rfl exprSize) rfl ?_
    rw [HR.out, HNT.out]
    exact HE7.out.done HTB.out (cs := [.int .i64 1, .string ⟨#[]⟩, .int .i64 tk.n, .slice none 0 0, .slice none 0 0]) (by unfold ExprC; exact ⟨none, 0, none, 0, rfl, fun hz => by simp at hz, fun hz => by simp at hz⟩)

set_option maxHeartbeats 8000000 in
set_option maxRecDepth 100000 in
theorem expr_name {gp tb : Nat} {A : Option Addr} {c : Nat} {ts : List Tok} {en i nd : Nat} (d : Nat) (w : World) (h : PSt w gp tb A c ts en i nd) (hd : d ≤ 32) (hnd : nd ≠ 1024) (hk : kindT ts i = 1) (hk3 : isT ts i 91 = false) (h40 : isT ts (i + 1) 40 = false) (r : Except (Nat × Nat) (E × Nat × Nat)) (hr : r = .ok (.mk 4 (textT ts i) 0 [] [], i + 1, nd + 1)) :
    Calls Tryd.prog 27 #[.pointer (some ⟨gp, 0, none⟩), .int .i64 d] w (exprPost w gp tb A c ts en r) := by
  have HIL : Hid (i < ts.length) := kindT_lt (by omega)
  have hil := HIL.out
  have i0' : (0 : Int) ≤ (i : Int) := by omega
  have i1' : (i : Int) < (ts.length : Int) := by omega
  have H := Lib.hid h
  have HR := Lib.hid hr
  have hli := h.li
  have hlts := h.lts
  have hlnd := h.lnd
  have HTB : Hid (∀ k, k < ts.length → tb < w.heap.size) := fun k hk => h.toks.lt hk
  have HK3 := Lib.hid hk3
  have hn1 : ((nd : Int) == 1024) = false := by simp; omega
  have hnd2 : nd < 1024 := by omega
  have hd1 : ¬ 32 < d := by omega
  clear h hr hk3 hnd
  have q1 : (((kindT ts i : Nat) : Int) != 2) = true := by simp; omega
  have q2 : (((kindT ts i : Nat) : Int) != 1) = false := by simp; omega
  have q3 : (((kindT ts i : Nat) : Int) == 2) = false := by simp; omega
  have H40 := Lib.hid h40
  clear h40
  clear hk
  go_enter Tryd.func27, Tryd.ntmps27
  go_upto_region 1 with fail
  have HE1 := Lib.hid (ESt.start H.out)
  change Code.wp _ _ _ _ (w.alloc (.cells zeroE 26))
  generalize w.alloc (.cells zeroE 26) = W1 at *
  have p1 : W1.cell? ⟨gp, 1, none⟩ = some (.int .i64 i) := HE1.out.1.cell 1
  have hgp1 : gp < W1.heap.size := HE1.out.1.lt
  go_cut [5, 6] (fun s5 s6 wx => CutStart W1 i (atT ts en i) s5 s6 wx)
  case first =>
    refine wp_region_keep (SAt W1 gp i) (by kernel_rfl) (by kernel_rfl) ⟨(Below.refl _ _).drew, p1⟩ ?_
    repeat (first
      | (apply keep_val rfl
         · intro W hS
           obtain ⟨_, e1⟩ := hS
           go_simp
           rfl
         go_simp)
      | (apply keep_call rfl
         · intro W hS
           go_simp
           exact ⟨rfl, rfl⟩
         · intro W hS
           exact (at_c W (HE1.out.1.grow hS.1)).mono (by rintro e w' ⟨rfl, hb⟩; exact ⟨rfl, hS.1.trans (hb.mono hS.1.size), (hb.cell (p := ⟨gp, 1, none⟩) (by have := hS.1.size; show gp < _; omega)).trans hS.2⟩)
         go_simp))
    refine wpKeep_nil ?_
    intro w2 hS2
    go_wp2_with fail
    go_meet
    exact ⟨rfl, rfl, hS2.1⟩
  case rest =>
    obtain ⟨rfl, rfl, hb⟩ := hcut
    have HE2 := Lib.hid (HE1.out.grow hb)
    clear hb HE1 p1 hgp1
    go_wp2_with fail
    refine (is_no 91 _ HE2.out.1 HK3.out).mono ?_
    rintro e w3 ⟨rfl, hb⟩
    have HE3 := Lib.hid (HE2.out.grow hb)
    clear hb HE2
    go_wp2_with fail
    refine (kind_c _ HE3.out.1).mono ?_
    rintro e w4 ⟨rfl, hb⟩
    have HE4 := Lib.hid (HE3.out.grow hb)
    clear hb HE3
    have p3 : w4.cell? ⟨gp, 3, none⟩ = some (.int .i64 nd) := HE4.out.1.cell 3
    have f3 : w4.frozen? ⟨gp, 3, none⟩ = false := HE4.out.1.frozen 3
    go_upto_region 11 with fail
    have HE5 : Hid (ESt w gp tb A c ts en i (nd + 1) (w4.setCell ⟨gp, 3, none⟩ (.int .i64 ((nd : Int) + 1)))) := HE4.out.via (HE4.out.1.node (by omega)).2 (HE4.out.1.node (by omega)).1
    obtain ⟨rfl, hrg⟩ := HE5.out.1.toks i ts[i] (List.getElem?_eq_getElem hil)
    have p1 : (w4.setCell ⟨gp, 3, none⟩ (.int .i64 ((nd : Int) + 1))).cell? ⟨gp, 1, none⟩ = some (.int .i64 i) := HE5.out.1.cell 1
    have f1 : (w4.setCell ⟨gp, 3, none⟩ (.int .i64 ((nd : Int) + 1))).frozen? ⟨gp, 1, none⟩ = false := HE5.out.1.frozen 1
    generalize w4.setCell ⟨gp, 3, none⟩ (.int .i64 ((nd : Int) + 1)) = w5 at *
    go_upto_region 12 with fail
    have HE6 : Hid (ESt w gp tb (some ⟨tb, 0, none⟩) c ts en (i + 1) (nd + 1) (w5.setCell ⟨gp, 1, none⟩ (.int .i64 ((i : Int) + 1)))) := HE5.out.via (HE5.out.1.step (k := 1) (Below.refl _ _) (by omega)).2 (HE5.out.1.step (k := 1) (Below.refl _ _) (by omega)).1
    clear hrg HE4 HE5 p3 f3 p1 f1
    generalize w5.setCell ⟨gp, 1, none⟩ (.int .i64 ((i : Int) + 1)) = w6 at *
    obtain ⟨_, hrg6⟩ := HE6.out.1.toks i ts[i] (List.getElem?_eq_getElem hil)
    have p0 : w6.cell? ⟨gp, 0, none⟩ = some (.slice (some ⟨tb, 0, none⟩) ts.length c) := HE6.out.1.cell 0
    have HNT : Hid (nT ts i = (ts[i].n : Int)) := by show _ = _; unfold nT; rw [List.getElem?_eq_getElem hil]
    have HTX : Hid (textT ts i = ts[i].text) := by show _ = _; unfold textT; rw [List.getElem?_eq_getElem hil]
    have HTK : Hid (w6.rangeAt tb (i * 4) [.int .i64 ts[i].kind, .string ⟨ts[i].text.toArray⟩, .int .i64 ts[i].n, .int .i64 ts[i].pos]) := hrg6
    clear hrg6
    generalize ts[i] = tk at *
    have HE7 : Hid (ESt w gp tb (some ⟨tb, 0, none⟩) c ts en (i + 1) (nd + 1) (w6.alloc (.cells #[.int .i64 tk.kind, .string ⟨tk.text.toArray⟩, .int .i64 tk.n, .int .i64 tk.pos] 40))) := HE6.out.grow ((Below.refl _ _).alloc (Nat.le_refl _) _)
    go_wp2_with (first
      | (refine wpList_load_mid rfl 40 (.tmp 65) rfl tb (i * 4) rfl [.int .i64 tk.kind, .string ⟨tk.text.toArray⟩, .int .i64 tk.n, .int .i64 tk.pos] _ HTK.out Tryd.underlying40 rfl tokSize ?_)
      | (refine wpList_store_new rfl 40 (.tmp 9) (.tmp 66) rfl w6 _ #[.int .i64 tk.kind, .string ⟨tk.text.toArray⟩, .int .i64 tk.n, .int .i64 tk.pos] rfl rfl tokSize rfl (by simp [Value.oneCell']) ?_))
    refine (is_no 40 _ HE7.out.1 H40.out).mono ?_
    rintro e w8 ⟨rfl, hb⟩
    have HE8 := Lib.hid (HE7.out.grow hb)
    have p81 : w8.cell? ⟨w6.heap.size, 1, none⟩ = some (.string ⟨tk.text.toArray⟩) := by
      rw [hb.cell (p := ⟨w6.heap.size, 1, none⟩) (by rw [World.size_alloc]; exact Nat.lt_succ_self _)]
      exact World.cell?_alloc_new _ _ _ 1
    clear hb HE7 HE6
    go_wp2_with (refine wpList_store_row rfl 26 (.tmp 4) (.tmp 77) rfl w.heap.size #[.int .i64 4, .string ⟨tk.text.toArray⟩, .int .i64 0, .slice none 0 0, .slice none 0 0] rfl rfl 26 _ HE8.out.2.2.1 exprSize rfl (by simp [Value.oneCell']) ?_)
    refine bodyPost_ret (results_cell_row (P := Tryd.prog) Tryd.results27 _ _ w.heap.size 26 #[.int .i64 4, .string ⟨tk.text.toArray⟩, .int .i64 0, .slice none 0 0, .slice none 0 0] (0, 0) _ rfl (setRow_heap _ _ _ _ _ _ HE8.out.2.2.1) Tryd.underlying26 rfl exprSize) rfl ?_
    rw [HR.out, HTX.out]
    exact HE8.out.done HTB.out (cs := [.int .i64 4, .string ⟨tk.text.toArray⟩, .int .i64 0, .slice none 0 0, .slice none 0 0]) (by unfold ExprC; exact ⟨none, 0, none, 0, rfl, fun hz => by simp at hz, fun hz => by simp at hz⟩)
#print axioms expr_name
end Go.Proofs.YtbjagceopgofiaaDoor
