/-
  The parser's method expr: all its ways but the call with arguments.
-/
import Derived.Test.YtbjagceopgofiaaDoorParsD
import Derived.Test.YtbjagceopgofiaaDoorExpr
namespace Go.Proofs.YtbjagceopgofiaaDoor
open Go.RowKit

def exprPost (w : World) (gp tb : Nat) (A : Option Addr) (c : Nat) (ts : List Tok) (en : Nat) (r : Except (Nat × Nat) (E × Nat × Nat)) (x : Ending) (w' : World) : Prop :=
  match r with
  | .ok (y, j, nd) => ∃ cs, x = .returned (.agg cs.toArray) ∧ ExprC w' (fun b => w.heap.size ≤ b) y cs ∧ PSt w' gp tb A c ts en j nd ∧ w.grownBy w' (some gp)
  | .error (er, p) => x = .panicked [{ v := faultV er p, recovered := false }] ∧ w.grownBy w' (some gp)

/-- What expr's first statement reads. -/
def SAt (W1 : World) (gp i : Nat) (W : World) : Prop := Below W1.heap.size W1 W ∧ W.cell? ⟨gp, 1, none⟩ = some (.int .i64 i)
def CutStart (W1 : World) (i p : Nat) (s5 s6 : Value) (wx : World) : Prop := s5 = .int .i64 i ∧ s6 = .int .i64 p ∧ Below W1.heap.size W1 wx
theorem exprInfo : (Tryd.prog.info? 26).map (fun i => (i.zero, i.size, i.bytes)) = some (some (.agg #[.int .i64 0, .string ⟨#[]⟩, .int .i64 0, .slice none 0 0, .slice none 0 0]), 5, 80) := by kernel_rfl
theorem exprSize : (Tryd.prog.info? 26).map (·.size) = some 5 := by kernel_rfl
def zeroE : Array Value := #[.int .i64 0, .string ⟨#[]⟩, .int .i64 0, .slice none 0 0, .slice none 0 0]

/-- In the midst of expr: the parser's state; the result's block (w.heap.size) holds the zero expression; of what was there the parser alone has turned. -/
def ESt (w : World) (gp tb : Nat) (A : Option Addr) (c : Nat) (ts : List Tok) (en i nd : Nat) (wx : World) : Prop :=
  PSt wx gp tb A c ts en i nd ∧ w.grownBy wx (some gp) ∧ wx.heap[w.heap.size]? = some (.cells zeroE 26 (0, 0)) ∧ gp < w.heap.size
section
variable {w wx w' : World} {gp tb : Nat} {A : Option Addr} {c : Nat} {ts : List Tok} {en i nd i' nd' : Nat}
theorem ESt.grow (h : ESt w gp tb A c ts en i nd wx) (hb : Below wx.heap.size wx w') : ESt w gp tb A c ts en i nd w' := by
  obtain ⟨h1, h2, h3, h4⟩ := h
  exact ⟨h1.grow hb, grown_tr h2 (grown_of_below hb _), (hb.block _ (Array.getElem?_eq_some_iff.1 h3).1).trans h3, h4⟩
theorem ESt.via (h : ESt w gp tb A c ts en i nd wx) (hg : wx.grownBy w' (some gp)) (hp : PSt w' gp tb A c ts en i' nd') : ESt w gp tb A c ts en i' nd' w' := by
  obtain ⟨h1, h2, h3, h4⟩ := h
  exact ⟨hp, grown_tr h2 hg, (hg.block _ (Array.getElem?_eq_some_iff.1 h3).1 (fun e => by have := Option.some.inj e; omega)).trans h3, h4⟩
theorem ESt.start (h : PSt w gp tb A c ts en i nd) : ESt w gp tb A c ts en i nd (w.alloc (.cells zeroE 26)) :=
  ⟨h.grow ((Below.refl _ _).alloc (Nat.le_refl _) _), grown_of_below ((Below.refl _ _).alloc (Nat.le_refl _) _) _, heap_alloc_new w _, h.lt⟩
theorem ESt.size (h : ESt w gp tb A c ts en i nd wx) : w.heap.size < wx.heap.size := (Array.getElem?_eq_some_iff.1 h.2.2.1).1
/-- One node more. -/
theorem PSt.node (h : PSt w gp tb A c ts en i nd) (hn : nd + 1 ≤ 1024) :
    PSt (w.setCell ⟨gp, 3, none⟩ (.int .i64 ((nd : Int) + 1))) gp tb A c ts en i (nd + 1) ∧ w.grownBy (w.setCell ⟨gp, 3, none⟩ (.int .i64 ((nd : Int) + 1))) (some gp) := by
  have hg : w.grownBy (w.setCell ⟨gp, 3, none⟩ (.int .i64 ((nd : Int) + 1))) (some gp) := ⟨rfl, rfl, rfl, by simp [World.setCell], fun j _ hj => Below.heap_setCell _ _ _ _ (fun e => hj (by rw [e]))⟩
  refine ⟨h.move hg ?_ h.li hn, hg⟩
  rw [heap_setCell_same _ _ _ _ _ _ h.blk]
  simp
/-- The result is stored, and the call ends. -/
theorem ESt.done {cs : List Value} {y : E} (h : ESt w gp tb A c ts en i nd wx) (ht : ∀ k, k < ts.length → tb < w.heap.size) (hc : ExprC wx (fun b => w.heap.size < b) y cs) :
    ∃ ds, Ending.returned (.agg cs.toArray) = .returned (.agg ds.toArray) ∧ ExprC (wx.setRow w.heap.size cs.toArray) (fun b => w.heap.size ≤ b) y ds ∧ PSt (wx.setRow w.heap.size cs.toArray) gp tb A c ts en i nd ∧ w.grownBy (wx.setRow w.heap.size cs.toArray) (some gp) := by
  obtain ⟨h1, h2, h3, h4⟩ := h
  have hb : Below w.heap.size wx (wx.setRow w.heap.size cs.toArray) := below_setRow (Below.refl _ _) (Nat.le_refl _) _
  refine ⟨cs, rfl, ExprC.mono (fun b hb _ => ⟨by omega, setRow_other _ _ _ _ (by omega)⟩) y cs hc, ⟨(hb.block gp h4).trans h1.blk, ?_, h1.ne, h1.lts, h1.li, h1.len, h1.lnd⟩, grown_below h2 hb⟩
  intro k t hk
  have hkl : k < ts.length := (List.getElem?_eq_some_iff.1 hk).1
  exact ⟨(h1.toks k t hk).1, fun j v hv => (World.cell?_of_block (a := ⟨tb, k * 4 + j, none⟩) (hb.block tb (ht k hkl))).trans ((h1.toks k t hk).2 j v hv)⟩
end

set_option maxHeartbeats 8000000 in
set_option maxRecDepth 100000 in
theorem expr_syntax {gp tb : Nat} {A : Option Addr} {c : Nat} {ts : List Tok} {en i nd : Nat} (d : Nat) (w : World) (h : PSt w gp tb A c ts en i nd) (r : Except (Nat × Nat) (E × Nat × Nat)) (hk1 : kindT ts i ≠ 1) (hk2 : kindT ts i ≠ 2) (hk3 : isT ts i 91 = false) (hr : r = .error (14, atT ts en i)) :
    Calls Tryd.prog 27 #[.pointer (some ⟨gp, 0, none⟩), .int .i64 d] w (exprPost w gp tb A c ts en r) := by
  have H := Lib.hid h
  have HR := Lib.hid hr
  clear h hr
  have HK3 := Lib.hid hk3
  clear hk3
  have q1 : (((kindT ts i : Nat) : Int) != 2) = true := by simp; omega
  have q2 : (((kindT ts i : Nat) : Int) != 1) = true := by simp; omega
  clear hk1 hk2
  go_enter Tryd.func27, Tryd.ntmps27
  go_upto_region 1 with fail
  have HE1 := Lib.hid (ESt.start H.out)
  change Code.wp _ _ _ _ (w.alloc (.cells zeroE 26))
  generalize w.alloc (.cells zeroE 26) = W1 at *
  have p1 : W1.cell? ⟨gp, 1, none⟩ = some (.int .i64 i) := HE1.out.1.cell 1
  have hgp1 : gp < W1.heap.size := HE1.out.1.lt
  go_cut [5, 6] (fun s5 s6 wx => CutStart W1 i (atT ts en i) s5 s6 wx)
  case first =>
    refine wp_region_keep (SAt W1 gp i) (by kernel_rfl) (by kernel_rfl) ⟨(Below.refl _ _).drew, p1⟩ ?_
    repeat (first
      | (apply keep_val rfl
         · intro W hS
           obtain ⟨_, e1⟩ := hS
           go_simp
           rfl
         go_simp)
      | (apply keep_call rfl
         · intro W hS
           go_simp
           exact ⟨rfl, rfl⟩
         · intro W hS
           exact (at_c W (HE1.out.1.grow hS.1)).mono (by rintro e w' ⟨rfl, hb⟩; exact ⟨rfl, hS.1.trans (hb.mono hS.1.size), (hb.cell (p := ⟨gp, 1, none⟩) (by have := hS.1.size; show gp < _; omega)).trans hS.2⟩)
         go_simp))
    refine wpKeep_nil ?_
    intro w2 hS2
    go_wp2_with fail
    go_meet
    exact ⟨rfl, rfl, hS2.1⟩
  case rest =>
    obtain ⟨rfl, rfl, hb⟩ := hcut
    have HE2 := Lib.hid (HE1.out.grow hb)
    clear hb HE1 p1 hgp1
    go_wp2_with fail
    refine (is_no 91 _ HE2.out.1 HK3.out).mono ?_
    rintro e w3 ⟨rfl, hb⟩
    have HE3 := Lib.hid (HE2.out.grow hb)
    clear hb HE2
    go_wp2_with fail
    refine (kind_c _ HE3.out.1).mono ?_
    rintro e w4 ⟨rfl, hb⟩
    have HE4 := Lib.hid (HE3.out.grow hb)
    clear hb HE3
    have p3 : w4.cell? ⟨gp, 3, none⟩ = some (.int .i64 nd) := HE4.out.1.cell 3
    have f3 : w4.frozen? ⟨gp, 3, none⟩ = false := HE4.out.1.frozen 3
    go_wp2_with fail
    refine (fail_c _ _ _).mono ?_
    rintro e w5 ⟨rfl, rfl⟩
    go_wp2_with fail
    refine ⟨rfl, ?_⟩
    rw [HR.out]
    exact ⟨rfl, HE4.out.2.1⟩

set_option maxHeartbeats 8000000 in
set_option maxRecDepth 100000 in
theorem expr_big_n {gp tb : Nat} {A : Option Addr} {c : Nat} {ts : List Tok} {en i nd : Nat} (d : Nat) (w : World) (h : PSt w gp tb A c ts en i nd) (r : Except (Nat × Nat) (E × Nat × Nat)) (hd : d ≤ 40) (hk : kindT ts i = 2) (hk3 : isT ts i 91 = false) (hbig : 32 < d ∨ nd = 1024) (hr : r = .error (8, atT ts en i)) :
    Calls Tryd.prog 27 #[.pointer (some ⟨gp, 0, none⟩), .int .i64 d] w (exprPost w gp tb A c ts en r) := by
  have H := Lib.hid h
  have HR := Lib.hid hr
  clear h hr
  have HK3 := Lib.hid hk3
  clear hk3
  have q1 : (((kindT ts i : Nat) : Int) != 2) = false := by simp; omega
  clear hk
  go_enter Tryd.func27, Tryd.ntmps27
  go_upto_region 1 with fail
  have HE1 := Lib.hid (ESt.start H.out)
  change Code.wp _ _ _ _ (w.alloc (.cells zeroE 26))
  generalize w.alloc (.cells zeroE 26) = W1 at *
  have p1 : W1.cell? ⟨gp, 1, none⟩ = some (.int .i64 i) := HE1.out.1.cell 1
  have hgp1 : gp < W1.heap.size := HE1.out.1.lt
  go_cut [5, 6] (fun s5 s6 wx => CutStart W1 i (atT ts en i) s5 s6 wx)
  case first =>
    refine wp_region_keep (SAt W1 gp i) (by kernel_rfl) (by kernel_rfl) ⟨(Below.refl _ _).drew, p1⟩ ?_
    repeat (first
      | (apply keep_val rfl
         · intro W hS
           obtain ⟨_, e1⟩ := hS
           go_simp
           rfl
         go_simp)
      | (apply keep_call rfl
         · intro W hS
           go_simp
           exact ⟨rfl, rfl⟩
         · intro W hS
           exact (at_c W (HE1.out.1.grow hS.1)).mono (by rintro e w' ⟨rfl, hb⟩; exact ⟨rfl, hS.1.trans (hb.mono hS.1.size), (hb.cell (p := ⟨gp, 1, none⟩) (by have := hS.1.size; show gp < _; omega)).trans hS.2⟩)
         go_simp))
    refine wpKeep_nil ?_
    intro w2 hS2
    go_wp2_with fail
    go_meet
    exact ⟨rfl, rfl, hS2.1⟩
  case rest =>
    obtain ⟨rfl, rfl, hb⟩ := hcut
    have HE2 := Lib.hid (HE1.out.grow hb)
    clear hb HE1 p1 hgp1
    go_wp2_with fail
    refine (is_no 91 _ HE2.out.1 HK3.out).mono ?_
    rintro e w3 ⟨rfl, hb⟩
    have HE3 := Lib.hid (HE2.out.grow hb)
    clear hb HE2
    go_wp2_with fail
    refine (kind_c _ HE3.out.1).mono ?_
    rintro e w4 ⟨rfl, hb⟩
    have HE4 := Lib.hid (HE3.out.grow hb)
    clear hb HE3
    have p3 : w4.cell? ⟨gp, 3, none⟩ = some (.int .i64 nd) := HE4.out.1.cell 3
    have f3 : w4.frozen? ⟨gp, 3, none⟩ = false := HE4.out.1.frozen 3
    by_cases hd32 : 32 < d
    · clear hbig
      go_wp2_with fail
      refine (fail_c _ _ _).mono ?_
      rintro e w5 ⟨rfl, rfl⟩
      go_wp2_with fail
      refine ⟨rfl, ?_⟩
      rw [HR.out]
      exact ⟨rfl, HE4.out.2.1⟩
    · have hnd : ((nd : Int) == 1024) = true := by simp; omega
      clear hbig
      go_wp2_with fail
      refine (fail_c _ _ _).mono ?_
      rintro e w5 ⟨rfl, rfl⟩
      go_wp2_with fail
      refine ⟨rfl, ?_⟩
      rw [HR.out]
      exact ⟨rfl, HE4.out.2.1⟩

set_option maxHeartbeats 8000000 in
set_option maxRecDepth 100000 in
theorem expr_big_w {gp tb : Nat} {A : Option Addr} {c : Nat} {ts : List Tok} {en i nd : Nat} (d : Nat) (w : World) (h : PSt w gp tb A c ts en i nd) (r : Except (Nat × Nat) (E × Nat × Nat)) (hd : d ≤ 40) (hk : kindT ts i = 1) (hk3 : isT ts i 91 = false) (hbig : 32 < d ∨ nd = 1024) (hr : r = .error (8, atT ts en i)) :
    Calls Tryd.prog 27 #[.pointer (some ⟨gp, 0, none⟩), .int .i64 d] w (exprPost w gp tb A c ts en r) := by
  have H := Lib.hid h
  have HR := Lib.hid hr
  clear h hr
  have HK3 := Lib.hid hk3
  clear hk3
  have q1 : (((kindT ts i : Nat) : Int) != 2) = true := by simp; omega
  have q2 : (((kindT ts i : Nat) : Int) != 1) = false := by simp; omega
  clear hk
  go_enter Tryd.func27, Tryd.ntmps27
  go_upto_region 1 with fail
  have HE1 := Lib.hid (ESt.start H.out)
  change Code.wp _ _ _ _ (w.alloc (.cells zeroE 26))
  generalize w.alloc (.cells zeroE 26) = W1 at *
  have p1 : W1.cell? ⟨gp, 1, none⟩ = some (.int .i64 i) := HE1.out.1.cell 1
  have hgp1 : gp < W1.heap.size := HE1.out.1.lt
  go_cut [5, 6] (fun s5 s6 wx => CutStart W1 i (atT ts en i) s5 s6 wx)
  case first =>
    refine wp_region_keep (SAt W1 gp i) (by kernel_rfl) (by kernel_rfl) ⟨(Below.refl _ _).drew, p1⟩ ?_
    repeat (first
      | (apply keep_val rfl
         · intro W hS
           obtain ⟨_, e1⟩ := hS
           go_simp
           rfl
         go_simp)
      | (apply keep_call rfl
         · intro W hS
           go_simp
           exact ⟨rfl, rfl⟩
         · intro W hS
           exact (at_c W (HE1.out.1.grow hS.1)).mono (by rintro e w' ⟨rfl, hb⟩; exact ⟨rfl, hS.1.trans (hb.mono hS.1.size), (hb.cell (p := ⟨gp, 1, none⟩) (by have := hS.1.size; show gp < _; omega)).trans hS.2⟩)
         go_simp))
    refine wpKeep_nil ?_
    intro w2 hS2
    go_wp2_with fail
    go_meet
    exact ⟨rfl, rfl, hS2.1⟩
  case rest =>
    obtain ⟨rfl, rfl, hb⟩ := hcut
    have HE2 := Lib.hid (HE1.out.grow hb)
    clear hb HE1 p1 hgp1
    go_wp2_with fail
    refine (is_no 91 _ HE2.out.1 HK3.out).mono ?_
    rintro e w3 ⟨rfl, hb⟩
    have HE3 := Lib.hid (HE2.out.grow hb)
    clear hb HE2
    go_wp2_with fail
    refine (kind_c _ HE3.out.1).mono ?_
    rintro e w4 ⟨rfl, hb⟩
    have HE4 := Lib.hid (HE3.out.grow hb)
    clear hb HE3
    have p3 : w4.cell? ⟨gp, 3, none⟩ = some (.int .i64 nd) := HE4.out.1.cell 3
    have f3 : w4.frozen? ⟨gp, 3, none⟩ = false := HE4.out.1.frozen 3
    by_cases hd32 : 32 < d
    · clear hbig
      go_wp2_with fail
      refine (fail_c _ _ _).mono ?_
      rintro e w5 ⟨rfl, rfl⟩
      go_wp2_with fail
      refine ⟨rfl, ?_⟩
      rw [HR.out]
      exact ⟨rfl, HE4.out.2.1⟩
    · have hnd : ((nd : Int) == 1024) = true := by simp; omega
      clear hbig
      go_wp2_with fail
      refine (fail_c _ _ _).mono ?_
      rintro e w5 ⟨rfl, rfl⟩
      go_wp2_with fail
      refine ⟨rfl, ?_⟩
      rw [HR.out]
      exact ⟨rfl, HE4.out.2.1⟩

set_option maxHeartbeats 8000000 in
set_option maxRecDepth 100000 in
theorem expr_big_b {gp tb : Nat} {A : Option Addr} {c : Nat} {ts : List Tok} {en i nd : Nat} (d : Nat) (w : World) (h : PSt w gp tb A c ts en i nd) (r : Except (Nat × Nat) (E × Nat × Nat)) (hd : d ≤ 40) (hk3 : isT ts i 91 = true) (hbig : 32 < d ∨ nd = 1024) (hr : r = .error (8, atT ts en i)) :
    Calls Tryd.prog 27 #[.pointer (some ⟨gp, 0, none⟩), .int .i64 d] w (exprPost w gp tb A c ts en r) := by
  have H := Lib.hid h
  have HR := Lib.hid hr
  clear h hr
  have HK3 := Lib.hid hk3
  clear hk3
  go_enter Tryd.func27, Tryd.ntmps27
  go_upto_region 1 with fail
  have HE1 := Lib.hid (ESt.start H.out)
  change Code.wp _ _ _ _ (w.alloc (.cells zeroE 26))
  generalize w.alloc (.cells zeroE 26) = W1 at *
  have p1 : W1.cell? ⟨gp, 1, none⟩ = some (.int .i64 i) := HE1.out.1.cell 1
  have hgp1 : gp < W1.heap.size := HE1.out.1.lt
  go_cut [5, 6] (fun s5 s6 wx => CutStart W1 i (atT ts en i) s5 s6 wx)
  case first =>
    refine wp_region_keep (SAt W1 gp i) (by kernel_rfl) (by kernel_rfl) ⟨(Below.refl _ _).drew, p1⟩ ?_
    repeat (first
      | (apply keep_val rfl
         · intro W hS
           obtain ⟨_, e1⟩ := hS
           go_simp
           rfl
         go_simp)
      | (apply keep_call rfl
         · intro W hS
           go_simp
           exact ⟨rfl, rfl⟩
         · intro W hS
           exact (at_c W (HE1.out.1.grow hS.1)).mono (by rintro e w' ⟨rfl, hb⟩; exact ⟨rfl, hS.1.trans (hb.mono hS.1.size), (hb.cell (p := ⟨gp, 1, none⟩) (by have := hS.1.size; show gp < _; omega)).trans hS.2⟩)
         go_simp))
    refine wpKeep_nil ?_
    intro w2 hS2
    go_wp2_with fail
    go_meet
    exact ⟨rfl, rfl, hS2.1⟩
  case rest =>
    obtain ⟨rfl, rfl, hb⟩ := hcut
    have HE2 := Lib.hid (HE1.out.grow hb)
    clear hb HE1 p1 hgp1
    go_wp2_with fail
    refine (is_yes 91 _ HE2.out.1 HK3.out).mono ?_
    rintro e w3 ⟨rfl, hp, hg⟩
    have HE3 := Lib.hid (HE2.out.via hg hp)
    clear hp hg HE2
    go_wp2_with fail
    refine (kind_c _ HE3.out.1).mono ?_
    rintro e w4 ⟨rfl, hb⟩
    have HE4 := Lib.hid (HE3.out.grow hb)
    clear hb HE3
    have p3 : w4.cell? ⟨gp, 3, none⟩ = some (.int .i64 nd) := HE4.out.1.cell 3
    have f3 : w4.frozen? ⟨gp, 3, none⟩ = false := HE4.out.1.frozen 3
    by_cases hd32 : 32 < d
    · clear hbig
      go_wp2_with fail
      refine (fail_c _ _ _).mono ?_
      rintro e w5 ⟨rfl, rfl⟩
      go_wp2_with fail
      refine ⟨rfl, ?_⟩
      rw [HR.out]
      exact ⟨rfl, HE4.out.2.1⟩
    · have hnd : ((nd : Int) == 1024) = true := by simp; omega
      clear hbig
      go_wp2_with fail
      refine (fail_c _ _ _).mono ?_
      rintro e w5 ⟨rfl, rfl⟩
      go_wp2_with fail
      refine ⟨rfl, ?_⟩
      rw [HR.out]
      exact ⟨rfl, HE4.out.2.1⟩
#print axioms expr_big_b
end Go.Proofs.YtbjagceopgofiaaDoor
