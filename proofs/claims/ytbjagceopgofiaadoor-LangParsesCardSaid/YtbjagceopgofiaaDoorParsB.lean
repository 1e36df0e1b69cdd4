/-
  The parser's method is: passes the sign if it is the next token.
-/
import Derived.Test.YtbjagceopgofiaaDoorParsA
namespace Go.Proofs.YtbjagceopgofiaaDoor
open Go.RowKit

section
variable {w wc : World} {gp tb : Nat} {A : Option Addr} {c : Nat} {ts : List Tok} {en i nd : Nat}
/-- The next token is passed. -/
theorem PSt.step {k : Nat} (h : PSt wc gp tb A c ts en i nd) (hb : Below w.heap.size w wc) (hi : i + k ≤ 65536) :
    PSt (wc.setCell ⟨gp, 1, none⟩ (.int .i64 ((i : Int) + k))) gp tb A c ts en (i + k) nd ∧ w.grownBy (wc.setCell ⟨gp, 1, none⟩ (.int .i64 ((i : Int) + k))) (some gp) := by
  have hg : wc.grownBy (wc.setCell ⟨gp, 1, none⟩ (.int .i64 ((i : Int) + k))) (some gp) := ⟨rfl, rfl, rfl, by simp [World.setCell], fun j _ hj => Below.heap_setCell _ _ _ _ (fun e => hj (by rw [e]))⟩
  refine ⟨h.move hg ?_ hi h.lnd, ⟨hg.os.trans hb.os, hg.tape.trans hb.tape, hg.output.trans hb.output, Nat.le_trans hb.size hg.size, fun j hj hne => (hg.block j (Nat.lt_of_lt_of_le hj hb.size) hne).trans (hb.block j hj)⟩⟩
  rw [heap_setCell_same _ _ _ _ _ _ h.blk]
  simp
end
/-- In every world that has only grown since: what 'is' reads. -/
def SIs (w : World) (gp tb i : Nat) (sl : Value) (tx : List UInt8) (W : World) : Prop :=
  Below w.heap.size w W ∧ W.cell? ⟨gp, 0, none⟩ = some sl ∧ W.cell? ⟨gp, 1, none⟩ = some (.int .i64 i) ∧ W.cell? ⟨tb, i * 4 + 1, none⟩ = some (.string ⟨tx.toArray⟩)
theorem SIs.grow {w : World} {gp tb i : Nat} {sl : Value} {tx : List UInt8} {W w' : World} (h : SIs w gp tb i sl tx W) (hgp : gp < w.heap.size) (htb : tb < w.heap.size) (hb : Below W.heap.size W w') : SIs w gp tb i sl tx w' := by
  obtain ⟨h0, h1, h2, h3⟩ := h
  have hs := h0.size
  exact ⟨h0.trans (hb.mono h0.size), (hb.cell (p := ⟨gp, 0, none⟩) (by show gp < _; omega)).trans h1, (hb.cell (p := ⟨gp, 1, none⟩) (by show gp < _; omega)).trans h2, (hb.cell (p := ⟨tb, i * 4 + 1, none⟩) (by show tb < _; omega)).trans h3⟩

set_option maxHeartbeats 2000000 in
set_option maxRecDepth 100000 in
theorem is_yes {gp tb : Nat} {A : Option Addr} {c : Nat} {ts : List Tok} {en i nd : Nat} (ch : UInt8) (w : World) (h : PSt w gp tb A c ts en i nd) (hy : isT ts i ch = true) :
    Calls Tryd.prog 53 #[.pointer (some ⟨gp, 0, none⟩), .string ⟨#[ch]⟩] w fun e w' => e = .returned (.bool true) ∧ PSt w' gp tb A c ts en (i + 1) nd ∧ w.grownBy w' (some gp) := by
  have hlt := isT_lt hy
  have hy2 : ts[i].kind = 3 ∧ ts[i].text = [ch] := by unfold isT at hy; rw [List.getElem?_eq_getElem hlt] at hy; simpa using hy
  obtain ⟨hk3, htx⟩ := hy2
  have p0 : w.cell? ⟨gp, 0, none⟩ = some (.slice A ts.length c) := h.cell 0
  have p1 : w.cell? ⟨gp, 1, none⟩ = some (.int .i64 i) := h.cell 1
  have hl := h.lts
  have hgp := h.lt
  have htb := h.toks.lt hlt
  obtain ⟨rfl, hr⟩ := h.toks i ts[i] (List.getElem?_eq_getElem hlt)
  have t1 : w.cell? ⟨tb, i * 4 + 1, none⟩ = some (.string ⟨[ch].toArray⟩) := (hr 1 _ rfl).trans (by rw [htx])
  have hkk : (((kindT ts i : Nat) : Int) == 3) = true := by rw [kindT_at hlt, hk3]; rfl
  have i0 : (0 : Int) ≤ (i : Int) := by omega
  have i1 : (i : Int) < (ts.length : Int) := by omega
  have H := Lib.hid h
  clear h hr hy hk3 htx
  go_enter Tryd.func53, Tryd.ntmps53
  go_upto_region 1 with fail
  go_cut [22] (fun t wx => t = .bool true ∧ Below w.heap.size w wx)
  case first =>
    refine wp_region_keep (SIs w gp tb i (.slice (some ⟨tb, 0, none⟩) ts.length c) [ch]) (by kernel_rfl) (by kernel_rfl) ⟨(Below.refl _ _).drew, p0, p1, t1⟩ ?_
    repeat (first
      | (apply keep_val rfl
         · intro W hS
           obtain ⟨_, e0, e1, e2⟩ := hS
           go_simp
           rfl
         go_simp)
      | (apply keep_call rfl
         · intro W hS
           go_simp
           exact ⟨rfl, rfl⟩
         · intro W hS
           exact (kind_c W (H.out.grow hS.1)).mono (by rintro e w' ⟨rfl, hb⟩; exact ⟨rfl, hS.grow hgp htb hb⟩)
         go_simp)
      | (apply keep_gval (by rfl)
         · intro W hS
           obtain ⟨_, e0, e1, e2⟩ := hS
           go_simp
           rfl
         go_simp))
    refine wpKeep_nil ?_
    intro w2 hS2
    go_wp2_with fail
    go_meet
    exact ⟨rfl, hS2.1⟩
  case rest =>
    obtain ⟨rfl, hb⟩ := hcut
    have H2 := Lib.hid (H.out.grow hb)
    have e1 : wc.cell? ⟨gp, 1, none⟩ = some (.int .i64 i) := H2.out.cell 1
    have f1 : wc.frozen? ⟨gp, 1, none⟩ = false := H2.out.frozen 1
    have HB := Lib.hid hb
    clear hb
    go_wp2_with fail
    go_ret
    exact ⟨rfl, H2.out.step (k := 1) HB.out (by omega)⟩

set_option maxHeartbeats 2000000 in
set_option maxRecDepth 100000 in
theorem is_no {gp tb : Nat} {A : Option Addr} {c : Nat} {ts : List Tok} {en i nd : Nat} (ch : UInt8) (w : World) (h : PSt w gp tb A c ts en i nd) (hy : isT ts i ch = false) :
    Calls Tryd.prog 53 #[.pointer (some ⟨gp, 0, none⟩), .string ⟨#[ch]⟩] w fun e w' => e = .returned (.bool false) ∧ Below w.heap.size w w' := by
  have p0 : w.cell? ⟨gp, 0, none⟩ = some (.slice A ts.length c) := h.cell 0
  have p1 : w.cell? ⟨gp, 1, none⟩ = some (.int .i64 i) := h.cell 1
  have hl := h.lts
  have hgp := h.lt
  have H := Lib.hid h
  by_cases hk : kindT ts i = 3
  · have hlt : i < ts.length := kindT_lt (by omega)
    have hne : ts[i].text ≠ [ch] := by
      intro htx
      unfold isT at hy
      rw [List.getElem?_eq_getElem hlt] at hy
      rw [kindT_at hlt] at hk
      simp [hk, htx] at hy
    have htb := h.toks.lt hlt
    obtain ⟨rfl, hr⟩ := h.toks i ts[i] (List.getElem?_eq_getElem hlt)
    have t1 : w.cell? ⟨tb, i * 4 + 1, none⟩ = some (.string ⟨ts[i].text.toArray⟩) := hr 1 _ rfl
    have hkk : (((kindT ts i : Nat) : Int) == 3) = true := by rw [hk]; rfl
    have i0 : (0 : Int) ≤ (i : Int) := by omega
    have i1 : (i : Int) < (ts.length : Int) := by omega
    clear h hr hy hk
    generalize ts[i].text = tx at *
    go_enter Tryd.func53, Tryd.ntmps53
    go_upto_region 1 with fail
    go_cut [22] (fun t wx => t = .bool false ∧ Below w.heap.size w wx)
    case first =>
      refine wp_region_keep (SIs w gp tb i (.slice (some ⟨tb, 0, none⟩) ts.length c) tx) (by kernel_rfl) (by kernel_rfl) ⟨(Below.refl _ _).drew, p0, p1, t1⟩ ?_
      repeat (first
        | (apply keep_val rfl
           · intro W hS
             obtain ⟨_, e0, e1, e2⟩ := hS
             go_simp
             rfl
           go_simp)
        | (apply keep_call rfl
           · intro W hS
             go_simp
             exact ⟨rfl, rfl⟩
           · intro W hS
             exact (kind_c W (H.out.grow hS.1)).mono (by rintro e w' ⟨rfl, hb⟩; exact ⟨rfl, hS.grow hgp htb hb⟩)
           go_simp)
        | (apply keep_gval (by rfl)
           · intro W hS
             obtain ⟨_, e0, e1, e2⟩ := hS
             go_simp
             rfl
           go_simp))
      refine wpKeep_nil ?_
      intro w2 hS2
      go_wp2_with fail
      go_meet
      exact ⟨congrArg Value.bool (by simp [hne]), hS2.1⟩
    case rest =>
      obtain ⟨rfl, hb⟩ := hcut
      have HB := Lib.hid hb
      clear hb
      go_wp2_with fail
      go_ret
      exact ⟨rfl, HB.out⟩
  · have hkk : (((kindT ts i : Nat) : Int) == 3) = false := by simp; omega
    clear h hy hk
    go_enter Tryd.func53, Tryd.ntmps53
    go_upto_region 1 with fail
    go_cut [22] (fun t wx => t = .bool false ∧ Below w.heap.size w wx)
    case first =>
      refine wp_region_keep (Below w.heap.size w) (by kernel_rfl) (by kernel_rfl) (Below.refl _ _).drew ?_
      repeat (first
        | (apply keep_val rfl
           · intro W hS
             go_simp
             rfl
           go_simp)
        | (apply keep_call rfl
           · intro W hS
             go_simp
             exact ⟨rfl, rfl⟩
           · intro W hS
             exact (kind_c W (H.out.grow hS)).mono (by rintro e w' ⟨rfl, hb⟩; exact ⟨rfl, hS.trans (hb.mono hS.size)⟩)
           go_simp)
        | (refine keep_not (by rfl) ?_
           go_simp))
      refine wpKeep_nil ?_
      intro w2 hS2
      go_wp2_with fail
      go_meet
      exact ⟨rfl, hS2⟩
    case rest =>
      obtain ⟨rfl, hb⟩ := hcut
      have HB := Lib.hid hb
      clear hb
      go_wp2_with fail
      go_ret
      exact ⟨rfl, HB.out⟩
#print axioms is_yes
#print axioms is_no
end Go.Proofs.YtbjagceopgofiaaDoor
