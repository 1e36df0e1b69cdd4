/-
  The reference's reader: args.
-/
import Derived.Test.YtbjagceopgofiaaDoorReadE
import Derived.Test.YtbjagceopgofiaaDoorParsG
namespace Go.Proofs.YtbjagceopgofiaaDoor
open Go.RowKit

/-- What the reader's loop over arguments keeps. -/
structure RArg (w : World) (A : Option Addr) (c : Nat) (ts : List Tok) (en i nd : Nat) (va : Value) (acc : List E) (xs : List Value) (wr : World) : Prop where
  rst : RSt w w.heap.size (w.heap.size + 1) A c ts en i nd wr
  own : wr.ownsRow (w.heap.size + 2) 26 5 va acc.length xs
  cel : CellsOf wr (fun b => w.heap.size + 2 ≤ b ∧ va.ownBlock ≠ some b) acc xs
  cnt : acc.length ≤ nd
section
variable {w wr w' : World} {A : Option Addr} {c : Nat} {ts : List Tok} {en i nd : Nat} {va : Value} {acc : List E} {xs : List Value}
theorem RArg.ne (h : RArg w A c ts en i nd va acc xs wr) (k : Nat) (hk : k < w.heap.size + 2) : va.ownBlock ≠ some k := fun he => by have := (h.own.lt k he).1; omega
/-- Whatever turns only blocks below the rows, and makes memory. -/
theorem RArg.move {i' nd' : Nat} (h : RArg w A c ts en i nd va acc xs wr) (hr : RSt w w.heap.size (w.heap.size + 1) A c ts en i' nd' w') (hn : nd ≤ nd') (hk : ∀ k, k < wr.heap.size → w.heap.size + 2 ≤ k → w'.heap[k]? = wr.heap[k]?) : RArg w A c ts en i' nd' va acc xs w' := by
  refine ⟨hr, ?_, CellsOf.mono (fun b hb hlt => ⟨hb, hk b hlt hb.1⟩) h.cel, Nat.le_trans h.cnt hn⟩
  obtain ⟨h1, h2⟩ := h.own
  refine ⟨h1, ?_⟩
  rcases h2 with h2 | ⟨g, cap, cur, hv, hg, hh, r⟩
  · exact .inl h2
  · exact .inr ⟨g, cap, cur, hv, hg, (hk g (Array.getElem?_eq_some_iff.1 hh).1 hg).trans hh, r⟩
theorem RArg.grow (h : RArg w A c ts en i nd va acc xs wr) (hb : Below wr.heap.size wr w') : RArg w A c ts en i nd va acc xs w' :=
  h.move (h.rst.grow hb) (Nat.le_refl _) (fun k hk _ => hb.block k hk)
theorem RArg.next (h : RArg w A c ts en i nd va acc xs wr) (hT : TA w A ts) : RArg w A c ts en (i + 1) nd va acc xs (wr.setCell ⟨w.heap.size, 2, none⟩ (.int .i64 ((i : Int) + 1))) :=
  h.move (h.rst.next hT (Nat.le_refl _) (by omega)) (Nat.le_refl _) (fun k _ hk => Below.heap_setCell _ _ _ _ (by show k ≠ w.heap.size; omega))
theorem RArg.shape (h : RArg w A c ts en i nd va acc xs wr) : ∃ VA Vk, va = .slice VA acc.length Vk := by
  rcases h.own.2 with ⟨hv, h0⟩ | ⟨g, cap, cur, hv, _⟩
  · exact ⟨none, 0, by rw [hv, h0]⟩
  · exact ⟨_, _, hv⟩
/-- The arguments read, out of their cells. -/
theorem RArg.args (h : RArg w A c ts en i nd va acc xs wr) : ∃ aa ac, va = .slice aa acc.length ac ∧ (0 < acc.length → ∃ b o, aa = some ⟨b, o, none⟩ ∧ w.heap.size + 2 ≤ b ∧ ExprsC wr (fun b => w.heap.size + 2 ≤ b) b o acc) := by
  have hown := h.own
  rcases h.own.2 with ⟨hv, h0⟩ | ⟨g, cap, cur, hv, hg, _⟩
  · exact ⟨none, 0, by rw [hv, h0], fun hz => by omega⟩
  · refine ⟨some ⟨g, 0, none⟩, cap, hv, fun hz => ⟨g, 0, rfl, hg, ?_⟩⟩
    rw [hv] at hown
    have hr : wr.rangeAt g 0 xs := fun k v hk => by
      have hkl := (List.getElem?_eq_some_iff.1 hk).1
      rw [hown.1] at hkl
      rw [Nat.zero_add, hown.cellAt k hkl, hk]
    exact CellsOf.exprs 0 (CellsOf.mono (fun b hb _ => ⟨hb.1, rfl⟩) h.cel) hr
/-- One argument more. -/
theorem RArg.put {w5 W w6 : World} {y : E} {cs : List Value} {g cap B : Nat} (h : RArg w A c ts en i nd va acc xs w5) (hT : TA w A ts) (hlt : acc.length + 1 ≤ nd)
    (hB : w.heap.size + 2 ≤ B) (hB2 : ∀ k, va.ownBlock = some k → k < B) (hy : ExprC w5 (fun b => B ≤ b) y cs) (hW : Below w5.heap.size w5 W) (hown : w6.ownsRow (w.heap.size + 2) 26 5 (.slice (some ⟨g, 0, none⟩) (acc.length + 1) cap) (acc.length + 1) (xs ++ cs))
    (hg : W.grownBy w6 va.ownBlock) (hgg : va.ownBlock = some g ∨ W.heap.size ≤ g) :
    RArg w A c ts en i nd (.slice (some ⟨g, 0, none⟩) (acc.length + 1) cap) (acc ++ [y]) (xs ++ cs) w6 := by
  have hWs := hW.size
  have h5s := h.rst.2.2.2.size
  have keep6 : ∀ b, b < w5.heap.size → va.ownBlock ≠ some b → w6.heap[b]? = w5.heap[b]? := fun b hb hne => (hg.block b (by omega) (fun e => hne e.symm)).trans (hW.block b hb)
  have hbl : Below (w.heap.size + 2) w5 w6 := (hW.mono (by have := (Array.getElem?_eq_some_iff.1 h.rst.2.1).1; omega)).grown hg (by have := (Array.getElem?_eq_some_iff.1 h.rst.2.1).1; omega) (fun k hk => (h.own.lt k hk).1)
  have hbw := h.rst.2.2.2.trans (hbl.mono (by omega))
  refine ⟨⟨(hbl.block _ (by omega)).trans h.rst.1, (hbl.block _ (by omega)).trans h.rst.2.1, hT.grow hbw, hbw⟩, by rw [List.length_append]; exact hown, ?_, by rw [List.length_append]; simpa using hlt⟩
  have h1 := CellsOf.mono (F' := fun b => w.heap.size + 2 ≤ b ∧ Value.ownBlock (.slice (some ⟨g, 0, none⟩) (acc.length + 1) cap) ≠ some b) (w' := w6) (fun b hb hlt => ⟨⟨hb.1, fun e => by
      have e' : g = b := Option.some.inj e
      subst e'
      rcases hgg with hgg | hgg
      · exact hb.2 hgg
      · omega⟩, keep6 b hlt hb.2⟩) h.cel
  refine CellsOf.snoc ?_ h1
  refine ExprC.mono (fun b hb hlt => ?_) y cs hy
  have hne : va.ownBlock ≠ some b := fun e => by have := hB2 b e; omega
  refine ⟨⟨by omega, fun e => ?_⟩, keep6 b hlt hne⟩
  have e' : g = b := Option.some.inj e
  subst e'
  rcases hgg with hgg | hgg
  · exact hne hgg
  · omega
end
/-- The loop's head: an argument is to be read at i. -/
def RelRA (w : World) (A : Option Addr) (c : Nat) (ts : List Tok) (en d : Nat) (r : Except (Nat × Nat) (List E × Nat × Nat)) (f0 : Nat) (v : Value) (g : Nat) (wr : World) : Prop :=
  ∃ i nd acc xs, g ≤ f0 ∧ (match exprM ts en g (d + 1) i nd with
      | none => none
      | some (.error e) => some (.error e)
      | some (.ok (x, j, nd')) => argsM ts en g d j nd' (acc ++ [x])) = some r ∧ RArg w A c ts en i nd v acc xs wr ∧ i ≤ ts.length ∧ nd ≤ 1024
#print axioms RArg.put

theorem nodes_le {ts : List Tok} {en : Nat} : ∀ (f : Nat),
    (∀ d i nd x j nd', nd ≤ 1024 → exprM ts en f d i nd = some (.ok (x, j, nd')) → nd' ≤ 1024) ∧
    (∀ d i nd acc xs j nd', nd ≤ 1024 → argsM ts en f d i nd acc = some (.ok (xs, j, nd')) → nd' ≤ 1024) := by
  intro f
  induction f with
  | zero => exact ⟨fun d i nd x j nd' _ h => by (unfold exprM at h; cases h), fun d i nd acc xs j nd' _ h => by (unfold argsM at h; cases h)⟩
  | succ f ih =>
    refine ⟨fun d i nd x j nd' hn h => ?_, fun d i nd acc xs j nd' hn h => ?_⟩
    · unfold exprM at h
      split at h
      · cases h
      · split at h
        · cases h
        · rename_i hbig
          split at h
          · split at h
            · injection h with h; injection h with h; injection h with h1 h; injection h with h2 h; omega
            · split at h
              · cases h
              · cases h
              · injection h with h; injection h with h; injection h with h1 h; injection h with h2 h; omega
          · split at h
            · injection h with h; injection h with h; injection h with h1 h; injection h with h2 h; omega
            · split at h
              · injection h with h; injection h with h; injection h with h1 h; injection h with h2 h; omega
              · split at h
                · cases h
                · cases h
                · rename_i xs2 j2 nd2 he
                  injection h with h; injection h with h; injection h with h1 h; injection h with h2 h
                  have := ih.2 _ _ _ _ _ _ _ (by omega) he
                  omega
    · unfold argsM at h
      split at h
      · injection h with h; injection h with h; injection h with h1 h; injection h with h2 h; omega
      · split at h
        · cases h
        · split at h
          · cases h
          · cases h
          · rename_i x2 j2 nd2 he
            exact ih.2 _ _ _ _ _ _ _ (ih.1 _ _ _ _ _ _ hn he) h
theorem rlist_err {ts : List Tok} {en : Nat} : ∀ (f i : Nat) (acc : List Int) (er p : Nat), listM ts en f i acc = some (.error (er, p)) → er = 14 ∨ er = 8
  | 0, i, acc, er, p, h => by unfold listM at h; cases h
  | f + 1, i, acc, er, p, h => by
    unfold listM at h
    split at h
    · cases h; exact .inl rfl
    · split at h
      · cases h; exact .inr rfl
      · split at h
        · cases h
        · split at h
          · exact rlist_err f _ _ _ _ h
          · cases h; exact .inl rfl
theorem rboth_err {ts : List Tok} {en : Nat} : ∀ (f : Nat),
    (∀ d i nd er p, exprM ts en f d i nd = some (.error (er, p)) → er = 14 ∨ er = 8) ∧
    (∀ d i nd acc er p, argsM ts en f d i nd acc = some (.error (er, p)) → er = 14 ∨ er = 8) := by
  intro f
  induction f with
  | zero => exact ⟨fun d i nd er p h => by (unfold exprM at h; cases h), fun d i nd acc er p h => by (unfold argsM at h; cases h)⟩
  | succ f ih =>
    refine ⟨fun d i nd er p h => ?_, fun d i nd acc er p h => ?_⟩
    · unfold exprM at h
      split at h
      · cases h; exact .inl rfl
      · split at h
        · cases h; exact .inr rfl
        · split at h
          · split at h
            · cases h
            · split at h
              · cases h
              · rename_i e hlm
                injection h with h; injection h with h
                rw [h] at hlm
                exact rlist_err _ _ _ _ _ hlm
              · cases h
          · split at h
            · cases h
            · split at h
              · cases h
              · split at h
                · cases h
                · rename_i e he
                  injection h with h; injection h with h
                  rw [h] at he
                  exact ih.2 _ _ _ _ _ _ he
                · cases h
    · unfold argsM at h
      split at h
      · cases h
      · split at h
        · cases h; exact .inl rfl
        · split at h
          · cases h
          · rename_i e he
            injection h with h; injection h with h
            rw [h] at he
            exact ih.1 _ _ _ _ _ he
          · exact ih.2 _ _ _ _ _ _ h

/-- The two cells of a round, made and filled. -/
def midW (w2 : World) (cs rd : Array Value) : World := (((w2.alloc (.cells zeroE 26)).alloc (.cells zeroR RdT)).setRow w2.heap.size cs).setRow (w2.heap.size + 1) rd
theorem mid_facts (w2 : World) (cs rd : Array Value) : (midW w2 cs rd).heap[w2.heap.size]? = some (.cells cs 26 (0, 0)) ∧ (midW w2 cs rd).heap[w2.heap.size + 1]? = some (.cells rd RdT (0, 0)) ∧ Below w2.heap.size w2 (midW w2 cs rd) := by
  have h1 : (((w2.alloc (.cells zeroE 26)).alloc (.cells zeroR RdT)).setRow w2.heap.size cs).heap[w2.heap.size]? = some (.cells cs 26 (0, 0)) := setRow_heap _ _ _ _ _ _ (heap_alloc2_old w2 _ _)
  have h2 : (((w2.alloc (.cells zeroE 26)).alloc (.cells zeroR RdT)).setRow w2.heap.size cs).heap[w2.heap.size + 1]? = some (.cells zeroR RdT (0, 0)) := (setRow_other _ _ _ _ (by omega)).trans (heap_alloc2_new w2 _ _)
  exact ⟨(setRow_other _ _ _ _ (by omega)).trans h1, setRow_heap _ _ _ _ _ _ h2, below_setRow (below_setRow (((Below.refl _ _).alloc (Nat.le_refl _) _).alloc (by simp) _) (Nat.le_refl _) _) (by omega) _⟩
section
variable {w wr w2 w4 : World} {A : Option Addr} {c : Nat} {ts : List Tok} {en i nd : Nat} {va : Value} {acc : List E} {xs : List Value}
/-- The reader's copy takes what the call handed on. -/
theorem RArg.taken {rd : Array Value} (h : RArg w A c ts en i nd va acc xs w4) : (w4.setRow w.heap.size rd).heap[w.heap.size]? = some (.cells rd RdT (0, 0)) ∧ (w4.setRow w.heap.size rd).heap[w.heap.size + 1]? = some (.cells zeroR RdT (0, 0)) ∧ Below w.heap.size w (w4.setRow w.heap.size rd) :=
  ⟨setRow_heap _ _ _ _ _ _ h.rst.1, (setRow_other _ _ _ _ (by omega)).trans h.rst.2.1, below_setRow h.rst.2.2.2 (Nat.le_refl _) _⟩
theorem RArg.turn {j nd2 : Nat} (h : RArg w A c ts en i nd va acc xs w4) (hT : TA w A ts) (hn : nd ≤ nd2) : RArg w A c ts en j nd2 va acc xs (w4.setRow w.heap.size (rdV A c ts.length en j nd2 0 0)) := by
  obtain ⟨h1, h2, h3⟩ := h.taken (rd := rdV A c ts.length en j nd2 0 0)
  exact h.move ⟨h1, h2, hT.grow h3, h3⟩ hn (fun k _ hk => setRow_other _ _ _ _ (by omega))
end
/-- A fresh expression and the reader behind it. -/
theorem fresh_r {w : World} {A : Option Addr} {c : Nat} {ts : List Tok} {en : Nat} {y : E} {j nd : Nat} {x : Ending} {w' : World} (h : rexprPost w A c ts en (.ok (y, j, nd)) x w') :
    ∃ (k : Int) (nm : ByteArray) (n : Int) (la : Option Addr) (ll lc : Nat) (aa : Option Addr) (al ac : Nat), x = .returned (.tuple #[.agg #[.int .i64 k, .string nm, .int .i64 n, .slice la ll lc, .slice aa al ac], .agg (rdV A c ts.length en j nd 0 0)]) ∧
      ExprC w' (fun b => w.heap.size ≤ b) y [.int .i64 k, .string nm, .int .i64 n, .slice la ll lc, .slice aa al ac] ∧ Below w.heap.size w w' := by
  obtain ⟨cs, rfl, h1, h2⟩ := h
  cases y
  have h1' := h1
  unfold ExprC at h1'
  obtain ⟨la, lc, aa, ac, rfl, _⟩ := h1'
  exact ⟨_, _, _, _, _, _, _, _, _, rfl, h1, h2⟩
#print axioms rboth_err
#print axioms fresh_r
end Go.Proofs.YtbjagceopgofiaaDoor
