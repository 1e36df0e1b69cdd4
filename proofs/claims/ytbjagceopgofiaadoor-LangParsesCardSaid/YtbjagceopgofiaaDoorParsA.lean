/-
  The parser's small methods: the next token's kind and offset.
-/
import Derived.Test.YtbjagceopgofiaaDoorPars
import Derived.Test.YtbjagceopgofiaaDoorLexD
import Derived.Deep.QuietTactic
import Derived.BigQuiet
namespace Go.Proofs.YtbjagceopgofiaaDoor
open Go.RowKit

/-- The tokens lie in block tb. -/
def TokAt (w : World) (tb : Nat) (A : Option Addr) (ts : List Tok) : Prop := ∀ i t, ts[i]? = some t → A = some ⟨tb, 0, none⟩ ∧ w.rangeAt tb (i * 4) (tokCells t)
/-- The parser (block gp) stands at token i, with nd nodes begun. -/
structure PSt (w : World) (gp tb : Nat) (A : Option Addr) (c : Nat) (ts : List Tok) (en i nd : Nat) : Prop where
  blk : w.heap[gp]? = some (.cells #[.slice A ts.length c, .int .i64 i, .int .i64 en, .int .i64 nd] 50 (0, 0))
  toks : TokAt w tb A ts
  ne : tb ≠ gp
  lts : ts.length ≤ 65536
  li : i ≤ 65536
  len : en ≤ 65536
  lnd : nd ≤ 1024

section
variable {w w' : World} {gp tb : Nat} {A : Option Addr} {c : Nat} {ts : List Tok} {en i nd i' nd' : Nat}
theorem TokAt.keep (h : TokAt w tb A ts) (hk : ∀ o, w'.cell? ⟨tb, o, none⟩ = w.cell? ⟨tb, o, none⟩) : TokAt w' tb A ts :=
  fun i t ht => ⟨(h i t ht).1, fun j v hv => (hk _).trans ((h i t ht).2 j v hv)⟩
theorem TokAt.lt (h : TokAt w tb A ts) (hi : i < ts.length) : tb < w.heap.size :=
  World.block_lt_of_cell? w ⟨tb, i * 4 + 0, none⟩ ((h i ts[i] (List.getElem?_eq_getElem hi)).2 0 _ rfl)
theorem TokAt.grown {row : Nat} (h : TokAt w tb A ts) (hne : tb ≠ row) (hg : w.grownBy w' (some row)) : TokAt w' tb A ts := by
  intro i t ht
  have hi : i < ts.length := (List.getElem?_eq_some_iff.1 ht).1
  have hlt := h.lt hi
  exact ⟨(h i t ht).1, fun j v hv => (World.cell?_of_block (a := ⟨tb, i * 4 + j, none⟩) (hg.block tb hlt (fun e => hne (Option.some.inj e)))).trans ((h i t ht).2 j v hv)⟩
theorem PSt.lt (h : PSt w gp tb A c ts en i nd) : gp < w.heap.size := (Array.getElem?_eq_some_iff.1 h.blk).1
theorem PSt.cell (h : PSt w gp tb A c ts en i nd) (j : Nat) : w.cell? ⟨gp, j, none⟩ = (#[.slice A ts.length c, .int .i64 i, .int .i64 en, .int .i64 nd] : Array Value)[j]? := cell_of_row _ _ _ _ _ _ h.blk
theorem PSt.frozen (h : PSt w gp tb A c ts en i nd) (j : Nat) : w.frozen? ⟨gp, j, none⟩ = false := frozen_of_row _ _ _ _ _ h.blk
theorem PSt.move (h : PSt w gp tb A c ts en i nd) (hg : w.grownBy w' (some gp)) (hb : w'.heap[gp]? = some (.cells #[.slice A ts.length c, .int .i64 i', .int .i64 en, .int .i64 nd'] 50 (0, 0))) (h1 : i' ≤ 65536) (h2 : nd' ≤ 1024) : PSt w' gp tb A c ts en i' nd' :=
  ⟨hb, h.toks.grown h.ne hg, h.ne, h.lts, h1, h.len, h2⟩
theorem PSt.grow (h : PSt w gp tb A c ts en i nd) (hb : Below w.heap.size w w') : PSt w' gp tb A c ts en i nd :=
  h.move ⟨hb.os, hb.tape, hb.output, hb.size, fun k hk _ => hb.block k hk⟩ ((hb.block gp h.lt).trans h.blk) h.li h.lnd
end

theorem kindT_at {ts : List Tok} {i : Nat} (h : i < ts.length) : kindT ts i = ts[i].kind := by unfold kindT; rw [List.getElem?_eq_getElem h]
theorem kindT_end {ts : List Tok} {i : Nat} (h : ts.length ≤ i) : kindT ts i = 0 := by unfold kindT; rw [List.getElem?_eq_none h]
theorem atT_at {ts : List Tok} {en i : Nat} (h : i < ts.length) : atT ts en i = ts[i].pos := by unfold atT; rw [List.getElem?_eq_getElem h]
theorem atT_end {ts : List Tok} {en i : Nat} (h : ts.length ≤ i) : atT ts en i = en := by unfold atT; rw [List.getElem?_eq_none h]

set_option maxHeartbeats 2000000 in
set_option maxRecDepth 100000 in
theorem kind_c {gp tb : Nat} {A : Option Addr} {c : Nat} {ts : List Tok} {en i nd : Nat} (w : World) (h : PSt w gp tb A c ts en i nd) :
    Calls Tryd.prog 54 #[.pointer (some ⟨gp, 0, none⟩)] w fun e w' => e = .returned (.int .i64 (kindT ts i)) ∧ Below w.heap.size w w' := by
  have p0 : w.cell? ⟨gp, 0, none⟩ = some (.slice A ts.length c) := h.cell 0
  have p1 : w.cell? ⟨gp, 1, none⟩ = some (.int .i64 i) := h.cell 1
  have p2 : w.cell? ⟨gp, 2, none⟩ = some (.int .i64 en) := h.cell 2
  have hl := h.lts
  have hi := h.li
  by_cases hlt : i < ts.length
  · obtain ⟨rfl, hr⟩ := h.toks i ts[i] (List.getElem?_eq_getElem hlt)
    have t0 : w.cell? ⟨tb, i * 4, none⟩ = some (.int .i64 ts[i].kind) := hr 0 _ rfl
    have HK := Lib.hid (kindT_at (i := i) hlt)
    have i0 : (0 : Int) ≤ (i : Int) := by omega
    have i1 : (i : Int) < (ts.length : Int) := by omega
    clear h hr
    generalize ts[i] = t at *
    go_enter Tryd.func54, Tryd.ntmps54
    go_wp2_with fail
    go_quiet (fail)
    go_wp2_with fail
    go_quiet (fail)
    go_wp2_with fail
    go_ret
    exact ⟨ret_int (by rw [HK.out]), below_drewN (below_drewN (Below.refl _ _) _) _⟩
  · have HK := Lib.hid (kindT_end (i := i) (Nat.le_of_not_lt hlt))
    clear h
    go_enter Tryd.func54, Tryd.ntmps54
    go_wp2_with fail
    go_quiet (fail)
    go_wp2_with fail
    go_ret
    exact ⟨ret_int (by rw [HK.out]; rfl), below_drewN (Below.refl _ _) _⟩
set_option maxHeartbeats 2000000 in
set_option maxRecDepth 100000 in
theorem at_c {gp tb : Nat} {A : Option Addr} {c : Nat} {ts : List Tok} {en i nd : Nat} (w : World) (h : PSt w gp tb A c ts en i nd) :
    Calls Tryd.prog 29 #[.pointer (some ⟨gp, 0, none⟩)] w fun e w' => e = .returned (.int .i64 (atT ts en i)) ∧ Below w.heap.size w w' := by
  have p0 : w.cell? ⟨gp, 0, none⟩ = some (.slice A ts.length c) := h.cell 0
  have p1 : w.cell? ⟨gp, 1, none⟩ = some (.int .i64 i) := h.cell 1
  have p2 : w.cell? ⟨gp, 2, none⟩ = some (.int .i64 en) := h.cell 2
  have hl := h.lts
  have hi := h.li
  by_cases hlt : i < ts.length
  · obtain ⟨rfl, hr⟩ := h.toks i ts[i] (List.getElem?_eq_getElem hlt)
    have t0 : w.cell? ⟨tb, i * 4 + 3, none⟩ = some (.int .i64 ts[i].pos) := hr 3 _ rfl
    have HK := Lib.hid (atT_at (en := en) (i := i) hlt)
    have i0 : (0 : Int) ≤ (i : Int) := by omega
    have i1 : (i : Int) < (ts.length : Int) := by omega
    clear h hr
    generalize ts[i] = t at *
    go_enter Tryd.func29, Tryd.ntmps29
    go_wp2_with fail
    go_quiet (fail)
    go_wp2_with fail
    go_quiet (fail)
    go_wp2_with fail
    go_ret
    exact ⟨ret_int (by rw [HK.out]), below_drewN (below_drewN (Below.refl _ _) _) _⟩
  · have HK := Lib.hid (atT_end (en := en) (i := i) (Nat.le_of_not_lt hlt))
    clear h
    go_enter Tryd.func29, Tryd.ntmps29
    go_wp2_with fail
    go_quiet (fail)
    go_wp2_with fail
    go_ret
    exact ⟨ret_int (by rw [HK.out]), below_drewN (Below.refl _ _) _⟩
#print axioms at_c
end Go.Proofs.YtbjagceopgofiaaDoor
