/-
  The parser's method expr: what its loop over a call's arguments keeps.
-/
import Derived.Test.YtbjagceopgofiaaDoorParsF
namespace Go.Proofs.YtbjagceopgofiaaDoor
open Go.RowKit

def callRes (nm : List UInt8) (r0 : Except (Nat × Nat) (List E × Nat × Nat)) : Except (Nat × Nat) (E × Nat × Nat) :=
  match r0 with
  | .error e => .error e
  | .ok (xs, j, nd') => .ok (.mk 3 nm 0 [] xs, j, nd')

theorem argsM_end {ts : List Tok} {en f d i nd : Nat} {acc : List E} (h : isT ts i 41 = true) : argsM ts en (f + 1) d i nd acc = some (.ok (acc, i + 1, nd)) := by
  unfold argsM; rw [if_pos h]
theorem argsM_bad {ts : List Tok} {en f d i nd : Nat} {acc : List E} (h : isT ts i 41 = false) (h1 : acc.length ≠ 0) (h2 : isT ts i 44 = false) : argsM ts en (f + 1) d i nd acc = some (.error (14, atT ts en i)) := by
  unfold argsM; rw [if_neg (by simp [h]), if_pos ⟨h1, h2⟩]
theorem argsM_first {ts : List Tok} {en f d i nd : Nat} {acc : List E} (h : isT ts i 41 = false) (h1 : acc.length = 0) : argsM ts en (f + 1) d i nd acc =
    match exprM ts en f (d + 1) i nd with
      | none => none
      | some (.error e) => some (.error e)
      | some (.ok (x, j, nd')) => argsM ts en f d j nd' (acc ++ [x]) := by
  conv => lhs; unfold argsM
  rw [if_neg (by simp [h]), if_neg (fun hh => hh.1 h1), if_neg (fun hh => hh h1)]
  rfl
theorem argsM_next {ts : List Tok} {en f d i nd : Nat} {acc : List E} (h : isT ts i 41 = false) (h1 : acc.length ≠ 0) (h2 : isT ts i 44 = true) : argsM ts en (f + 1) d i nd acc =
    match exprM ts en f (d + 1) (i + 1) nd with
      | none => none
      | some (.error e) => some (.error e)
      | some (.ok (x, j, nd')) => argsM ts en f d j nd' (acc ++ [x]) := by
  conv => lhs; unfold argsM
  rw [if_neg (by simp [h]), if_neg (fun hh => by rw [h2] at hh; exact absurd hh.2 (by simp)), if_pos h1]
  rfl
/-- Where an argument follows: its own result, and what the whole answers. -/
theorem args_split {ts : List Tok} {en f d j nd : Nat} {acc : List E} {r0 : Except (Nat × Nat) (List E × Nat × Nat)}
    (h : (match exprM ts en f (d + 1) j nd with
      | none => none
      | some (.error e) => some (.error e)
      | some (.ok (x, j, nd')) => argsM ts en f d j nd' (acc ++ [x])) = some r0) :
    (∃ e, exprM ts en f (d + 1) j nd = some (.error e) ∧ r0 = .error e) ∨ (∃ x j' nd', exprM ts en f (d + 1) j nd = some (.ok (x, j', nd')) ∧ argsM ts en f d j' nd' (acc ++ [x]) = some r0) := by
  match he : exprM ts en f (d + 1) j nd with
  | none => rw [he] at h; simp at h
  | some (.error e) => rw [he] at h; simp at h; exact .inl ⟨e, rfl, h.symm⟩
  | some (.ok (x, j', nd')) => rw [he] at h; exact .inr ⟨x, j', nd', rfl, h⟩

theorem nodes_up {ts : List Tok} {en : Nat} : ∀ (f : Nat),
    (∀ d i nd x j nd', exprM ts en f d i nd = some (.ok (x, j, nd')) → nd < nd') ∧
    (∀ d i nd acc xs j nd', argsM ts en f d i nd acc = some (.ok (xs, j, nd')) → nd ≤ nd') := by
  intro f
  induction f with
  | zero => exact ⟨fun d i nd x j nd' h => by (unfold exprM at h; cases h), fun d i nd acc xs j nd' h => by (unfold argsM at h; cases h)⟩
  | succ f ih =>
    refine ⟨fun d i nd x j nd' h => ?_, fun d i nd acc xs j nd' h => ?_⟩
    · unfold exprM at h
      split at h
      · cases h
      · split at h
        · cases h
        · split at h
          · split at h
            · injection h with h; injection h with h; injection h with h1 h; injection h with h2 h; omega
            · split at h
              · cases h
              · cases h
              · injection h with h; injection h with h; injection h with h1 h; injection h with h2 h; omega
          · split at h
            · injection h with h; injection h with h; injection h with h1 h; injection h with h2 h; omega
            · split at h
              · injection h with h; injection h with h; injection h with h1 h; injection h with h2 h; omega
              · split at h
                · cases h
                · cases h
                · rename_i xs2 j2 nd2 he
                  injection h with h; injection h with h; injection h with h1 h; injection h with h2 h
                  have := ih.2 _ _ _ _ _ _ _ he
                  omega
    · unfold argsM at h
      split at h
      · injection h with h; injection h with h; injection h with h1 h; injection h with h2 h; omega
      · split at h
        · cases h
        · split at h
          · cases h
          · cases h
          · rename_i x2 j2 nd2 he
            have h1 := ih.1 _ _ _ _ _ _ he
            have h2 := ih.2 _ _ _ _ _ _ _ h
            omega

/-- In the loop over the arguments: x (block bx) holds those read so far. -/
structure ArgSt (w : World) (gp tb : Nat) (A : Option Addr) (c : Nat) (ts : List Tok) (en bx : Nat) (nm : List UInt8) (j nd : Nat) (va : Value) (acc : List E) (xs : List Value) (wr : World) : Prop where
  est : ESt w gp tb A c ts en j nd wr
  hbx : w.heap.size < bx
  blk : wr.heap[bx]? = some (.cells #[.int .i64 3, .string ⟨nm.toArray⟩, .int .i64 0, .slice none 0 0, va] 26 (0, 0))
  own : wr.ownsRow (bx + 1) 26 5 va acc.length xs
  cel : CellsOf wr (fun b => bx < b ∧ va.ownBlock ≠ some b) acc xs
  cnt : acc.length ≤ nd
section
variable {w wr w' : World} {gp tb : Nat} {A : Option Addr} {c : Nat} {ts : List Tok} {en bx : Nat} {nm : List UInt8} {j nd j' nd' : Nat} {va : Value} {acc : List E} {xs : List Value}
theorem ArgSt.lt (h : ArgSt w gp tb A c ts en bx nm j nd va acc xs wr) : bx < wr.heap.size := (Array.getElem?_eq_some_iff.1 h.blk).1
theorem ArgSt.ne (h : ArgSt w gp tb A c ts en bx nm j nd va acc xs wr) (k : Nat) (hk : k ≤ bx) : va.ownBlock ≠ some k := fun he => by have := (h.own.lt k he).1; omega
theorem ArgSt.via (h : ArgSt w gp tb A c ts en bx nm j nd va acc xs wr) (hg : wr.grownBy w' (some gp)) (hp : PSt w' gp tb A c ts en j' nd') (hn : nd ≤ nd') : ArgSt w gp tb A c ts en bx nm j' nd' va acc xs w' := by
  have hgp := h.est.2.2.2
  have hbx := h.hbx
  refine ⟨h.est.via hg hp, hbx, (hg.block _ h.lt (fun e => by have := Option.some.inj e; omega)).trans h.blk, h.own.kept hg (.inr (h.ne gp (by omega))), ?_, Nat.le_trans h.cnt hn⟩
  exact CellsOf.mono (fun b hb hlt => ⟨hb, hg.block b hlt (fun e => by have := Option.some.inj e; omega)⟩) h.cel
theorem ArgSt.grow (h : ArgSt w gp tb A c ts en bx nm j nd va acc xs wr) (hb : Below wr.heap.size wr w') : ArgSt w gp tb A c ts en bx nm j nd va acc xs w' :=
  h.via (grown_of_below hb _) (h.est.1.grow hb) (Nat.le_refl _)
theorem ArgSt.shape (h : ArgSt w gp tb A c ts en bx nm j nd va acc xs wr) : ∃ VA Vk, va = .slice VA acc.length Vk := by
  rcases h.own.2 with ⟨hv, h0⟩ | ⟨g, cap, cur, hv, _⟩
  · exact ⟨none, 0, by rw [hv, h0]⟩
  · exact ⟨_, _, hv⟩
theorem ArgSt.start (h : ESt w gp tb A c ts en j nd wr) : ArgSt w gp tb A c ts en wr.heap.size nm j nd (.slice none 0 0) [] [] (wr.alloc (.cells #[.int .i64 3, .string ⟨nm.toArray⟩, .int .i64 0, .slice none 0 0, .slice none 0 0] 26)) :=
  ⟨h.grow ((Below.refl _ _).alloc (Nat.le_refl _) _), h.size, heap_alloc_new wr _, World.ownsRow_nil _ _ _ _, rfl, Nat.zero_le _⟩
/-- One argument more: appended, and the slice stored. -/
theorem ArgSt.put {w5 W w6 : World} {y : E} {cs : List Value} {g cap B : Nat} (h : ArgSt w gp tb A c ts en bx nm j nd va acc xs w5) (hlt : acc.length + 1 ≤ nd) (htb : tb < w.heap.size)
    (hB : bx < B) (hB2 : ∀ k, va.ownBlock = some k → k < B) (hy : ExprC w5 (fun b => B ≤ b) y cs) (hW : Below w5.heap.size w5 W) (hown : w6.ownsRow (bx + 1) 26 5 (.slice (some ⟨g, 0, none⟩) (acc.length + 1) cap) (acc.length + 1) (xs ++ cs))
    (hg : W.grownBy w6 va.ownBlock) (hgg : va.ownBlock = some g ∨ W.heap.size ≤ g) :
    ArgSt w gp tb A c ts en bx nm j nd (.slice (some ⟨g, 0, none⟩) (acc.length + 1) cap) (acc ++ [y]) (xs ++ cs) (w6.setCell ⟨bx, 4, none⟩ (.slice (some ⟨g, 0, none⟩) (acc.length + 1) cap)) := by
  have hbx := h.hbx
  have hgp := h.est.2.2.2
  have hsz := h.lt
  have hWs := hW.size
  have keep6 : ∀ b, b < w5.heap.size → va.ownBlock ≠ some b → w6.heap[b]? = w5.heap[b]? := fun b hb hne => (hg.block b (by omega) (fun e => hne e.symm)).trans (hW.block b hb)
  have keep7 : ∀ b, b < w5.heap.size → va.ownBlock ≠ some b → b ≠ bx → (w6.setCell ⟨bx, 4, none⟩ (.slice (some ⟨g, 0, none⟩) (acc.length + 1) cap)).heap[b]? = w5.heap[b]? := fun b hb hne hnb => (Below.heap_setCell _ _ _ _ hnb).trans (keep6 b hb hne)
  have hbl : Below w.heap.size w5 (w6.setCell ⟨bx, 4, none⟩ (.slice (some ⟨g, 0, none⟩) (acc.length + 1) cap)) :=
    ((hW.mono (by omega)).grown hg (by omega) (fun k hk => by have := (h.own.lt k hk).1; omega)).setCell (p := ⟨bx, 4, none⟩) (by show _ ≤ bx; omega) _
  have hblk6 : w6.heap[bx]? = _ := (keep6 bx hsz (h.ne bx (Nat.le_refl _))).trans h.blk
  refine ⟨⟨h.est.1.stay (hbl.block gp hgp) (hbl.block tb htb), grown_below h.est.2.1 hbl, ?_, hgp⟩, hbx, ?_, ?_, ?_, by rw [List.length_append]; simpa using hlt⟩
  · exact (keep7 _ h.est.size (h.ne _ (by omega)) (by omega)).trans h.est.2.2.1
  · rw [heap_setCell_same _ _ _ _ _ _ hblk6]
    simp
  · rw [List.length_append]
    exact ownsRow_setCell_below hown (a := ⟨bx, 4, none⟩) (by show bx < _; omega) _
  · have h1 := CellsOf.mono (F' := fun b => bx < b ∧ Value.ownBlock (.slice (some ⟨g, 0, none⟩) (acc.length + 1) cap) ≠ some b) (w' := w6.setCell ⟨bx, 4, none⟩ (.slice (some ⟨g, 0, none⟩) (acc.length + 1) cap)) (fun b hb hlt => ⟨⟨hb.1, fun e => by
        have e' : g = b := Option.some.inj e
        subst e'
        rcases hgg with hgg | hgg
        · exact hb.2 hgg
        · omega⟩, keep7 b hlt hb.2 (by omega)⟩) h.cel
    refine CellsOf.snoc ?_ h1
    refine ExprC.mono (fun b hb hlt => ?_) y cs hy
    have hne : va.ownBlock ≠ some b := fun e => by have := hB2 b e; omega
    refine ⟨⟨by omega, fun e => ?_⟩, keep7 b hlt hne (by omega)⟩
    have e' : g = b := Option.some.inj e
    subst e'
    rcases hgg with hgg | hgg
    · exact hne hgg
    · omega
/-- The call's expression, out of its cells. -/
theorem ArgSt.expr (h : ArgSt w gp tb A c ts en bx nm j nd va acc xs wr) : ExprC wr (fun b => w.heap.size < b) (.mk 3 nm 0 [] acc) [.int .i64 3, .string ⟨nm.toArray⟩, .int .i64 0, .slice none 0 0, va] := by
  have hbx := h.hbx
  unfold ExprC
  have hown := h.own
  rcases h.own.2 with ⟨hv, h0⟩ | ⟨g, cap, cur, hv, hg, _⟩
  · exact ⟨none, 0, none, 0, by rw [hv, h0]; rfl, fun hz => by simp at hz, fun hz => by omega⟩
  · refine ⟨none, 0, some ⟨g, 0, none⟩, cap, by rw [hv]; rfl, fun hz => by simp at hz, fun hz => ⟨g, 0, rfl, by omega, ?_⟩⟩
    rw [hv] at hown
    have hr : wr.rangeAt g 0 xs := fun k v hk => by
      have hkl := (List.getElem?_eq_some_iff.1 hk).1
      rw [hown.1] at hkl
      rw [Nat.zero_add, hown.cellAt k hkl, hk]
    exact CellsOf.exprs 0 (CellsOf.mono (fun b hb _ => ⟨by omega, rfl⟩) h.cel) hr
end
#print axioms ArgSt.expr
end Go.Proofs.YtbjagceopgofiaaDoor
